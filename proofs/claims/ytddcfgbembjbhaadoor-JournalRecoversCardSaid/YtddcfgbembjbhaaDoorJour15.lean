/- JournalRecovers: a journal beside rows of the call's own: no walk. -/
import Derived.Test.YtddcfgbembjbhaaDoorJour14
import Derived.Test.YtddcfgbembjbhaaDoorRecMath
namespace Go.Proofs.YtddcfgbembjbhaaDoor
open Go.RowKit
set_option linter.unusedVariables false
theorem kept_row {w w' : World} {row : Option Nat} (hg : w.grownBy w' row) : Kept (fun q => row = some q) w w' := (Kept.refl _ _).grown hg (fun k e _ => e)
theorem JIn.grown {w w' : World} {t : TypeId} {g : Nat} {C : Nat → Prop} {J : JV} (h : JIn w t g C J) {row : Option Nat} (hg : w.grownBy w' row) (hr : ∀ r, row = some r → ¬ C r) : JIn w' t g C J := h.apart (kept_row hg) (fun k hk e => hr k e hk)
theorem OwnI.apart {w w' : World} {base n c : Nat} {C : Nat → Prop} {A : Option Addr} {xs : List Int} (h : OwnI w base A n c xs) (hK : Kept C w w') (hd : ∀ k, A.map (·.block) = some k → ¬ C k) : OwnI w' base A n c xs := by
  rcases h.2 with h0 | ⟨g, cap, cur, hv, hb, hg, rest⟩
  · exact ⟨h.1, .inl h0⟩
  · refine ⟨h.1, .inr ⟨g, cap, cur, hv, hb, ?_, rest⟩⟩
    have hlt := (Array.getElem?_eq_some_iff.1 hg).1
    injection hv with h1 h2 h3
    exact (hK.block g hlt (hd g (by rw [h1]; rfl))).trans hg
theorem OwnI.lt {w : World} {base n c : Nat} {A : Option Addr} {xs : List Int} (h : OwnI w base A n c xs) : ∀ q, A.map (·.block) = some q → q < w.heap.size := fun q hq => by
  rcases h.form with ⟨rfl, _⟩ | ⟨g, rfl, _, hlt, _⟩
  · cases hq
  · cases hq; exact hlt
theorem OwnB.lt {w : World} {base n c : Nat} {A : Option Addr} {l : List UInt8} (h : OwnB w base A n c l) : ∀ q, A.map (·.block) = some q → base ≤ q ∧ q < w.heap.size := fun q hq => by
  rcases h.map_form with e | ⟨g, _, e, hb, hlt, _⟩
  · rw [e] at hq; cases hq
  · rw [e] at hq; cases hq; exact ⟨hb, hlt⟩
theorem run_append_int_at {w : World} {base n c : Nat} {A : Option Addr} {xs : List Int} (hown : OwnI w base A n c xs) {b o : Nat} {x : Int} (hc : w.cell? ⟨b, o, none⟩ = some (.int .i64 x))
    (hb : (n + 1) * 8 ≤ 140737488355328) (hbase : base ≤ w.heap.size) (ty : TypeId) :
    ∃ A' c' w', (Builtin.append_ #[36, 36] ty #[.slice A n c, .slice (some ⟨b, o, none⟩) 1 1]).run Tryd.prog w = .ok (.slice A' (n + 1) c') w' ∧ OwnI w' base A' (n + 1) c' (xs ++ [x]) ∧ w.grownBy w' (A.map (·.block)) ∧ (A'.map (·.block) = A.map (·.block) ∨ A'.map (·.block) = some w.heap.size) := by
  obtain ⟨i0, hi, hz0, hz1, hz2⟩ := info_parts info3
  have hob : Value.ownBlock (.slice A n c) = A.map (·.block) := by cases A <;> rfl
  obtain ⟨v', w', hrun, h2, h3, _, h5⟩ := run_append_own_at (P := Tryd.prog) w base 36 ty 3 i0 _ 1 8 Tryd.underlying36 hi hz0 hz1 hz2 rfl (by omega) _ n _ hown ⟨b, o, none⟩ 1 1 [.int .i64 x] rfl
    (by
      intro j u hu
      rcases j with _ | j
      · simp at hu
        subst hu
        have hadd : (⟨b, o, none⟩ : Addr).add 0 = ⟨b, o, none⟩ := by unfold Addr.add; split <;> simp_all
        rw [hadd]
        exact hc
      · simp at hu)
    (by intro u hu; simp at hu; subst hu; rfl) (by unfold maxLen; omega) (by omega) hbase
  rw [hob] at h3 h5
  rcases h2.2 with ⟨rfl, hn0⟩ | ⟨g, cap, cur, rfl, _⟩
  · omega
  · exact ⟨some ⟨g, 0, none⟩, cap, w', hrun, by unfold OwnI; rw [List.map_append]; exact h2, h3, by simpa [Value.ownBlock] using h5⟩
theorem wpList_append_int_at {ops : Array Oper} {rest : List Oper} {o : Oper} {a : Act} {w : World} {Q : Exit → Act → World → Prop} (hgd : o.guard = none) (s x : Operand)
    (ho : o.op = .call { callee := .builtin .append, args := #[s, x], argTypes := #[36, 36] })
    {base n c : Nat} {A : Option Addr} {xs : List Int} (hs : a.eval s = .slice A n c) (hown : OwnI w base A n c xs) {b off : Nat} {y : Int} (hx : a.eval x = .slice (some ⟨b, off, none⟩) 1 1) (hc : w.cell? ⟨b, off, none⟩ = some (.int .i64 y))
    (hb : (n + 1) * 8 ≤ 140737488355328) (hbase : base ≤ w.heap.size)
    (h : ∀ A' c' w', OwnI w' base A' (n + 1) c' (xs ++ [y]) → w.grownBy w' (A.map (·.block)) → (A'.map (·.block) = A.map (·.block) ∨ A'.map (·.block) = some w.heap.size) → wpList Tryd.prog ops Q rest (a.put o.dst (.slice A' (n + 1) c')) w') : wpList Tryd.prog ops Q (o :: rest) a w :=
  wpList_plain hgd fun _ hK => by
    obtain ⟨A', c', w', hrun, h2, h3, h4⟩ := run_append_int_at hown hc hb hbase o.type
    unfold Oper.wp execOp
    simp only [ho, resolve, invoke, builtin, Sem.run_bind, Sem.run_pure, Result.andThen_ok, List.map_toArray, List.map_cons, List.map_nil, hs, hx, hrun]
    exact hK _ _ (h A' c' w' h2 h3 h4)
/-- A journal in C beside three rows of the call's own: the tail, all, the ends; all since w0. -/
structure Rec (w0 : World) (g : Nat) (C : Nat → Prop) (J : JV) (A13 : Option Addr) (n13 c13 : Nat) (T : List UInt8) (A14 : Option Addr) (n14 c14 : Nat) (L : List UInt8) (A15 : Option Addr) (n15 c15 : Nat) (E : List Int) (wr : World) : Prop where
  j : JIn wr 99 g C J
  lc : ∀ q, C q → w0.heap.size ≤ q
  bl : Below w0.heap.size w0 wr
  t : OwnB wr w0.heap.size A13 n13 c13 T
  l : OwnB wr w0.heap.size A14 n14 c14 L
  e : OwnI wr w0.heap.size A15 n15 c15 E
  ct : ∀ q, A13.map (·.block) = some q → ¬ C q
  cl : ∀ q, A14.map (·.block) = some q → ¬ C q
  ce : ∀ q, A15.map (·.block) = some q → ¬ C q
  ap : apart A13 A14
section
variable {w0 wr w' : World} {g : Nat} {C : Nat → Prop} {J J' : JV} {A13 A14 A15 A' : Option Addr} {n13 c13 n14 c14 n15 c15 n' c' : Nat} {T L L' : List UInt8} {E E' : List Int}
theorem Rec.size (h : Rec w0 g C J A13 n13 c13 T A14 n14 c14 L A15 n15 c15 E wr) : w0.heap.size ≤ wr.heap.size := h.bl.size
theorem Rec.later (h : Rec w0 g C J A13 n13 c13 T A14 n14 c14 L A15 n15 c15 E wr) (hb : Below wr.heap.size wr w') : Rec w0 g C J A13 n13 c13 T A14 n14 c14 L A15 n15 c15 E w' :=
  ⟨h.j.later hb, h.lc, h.bl.trans (hb.mono h.bl.size), h.t.later hb, h.l.later hb, h.e.later hb, h.ct, h.cl, h.ce, h.ap⟩
theorem Rec.turn (h : Rec w0 g C J A13 n13 c13 T A14 n14 c14 L A15 n15 c15 E wr) (hJ : JIn w' 99 g (since wr C w') J') (hK : Kept C wr w') : Rec w0 g (since wr C w') J' A13 n13 c13 T A14 n14 c14 L A15 n15 c15 E w' :=
  ⟨hJ, since_ge (w := wr) (w' := w') h.lc h.bl.size, h.bl.trans (hK.below h.bl.size (fun q _ hq => h.lc q hq)), h.t.apart hK h.ct, h.l.apart hK h.cl, h.e.apart hK h.ce,
   fun q hq hc => hc.elim (h.ct q hq) (fun hl => by have := (h.t.lt q hq).2; omega), fun q hq hc => hc.elim (h.cl q hq) (fun hl => by have := (h.l.lt q hq).2; omega), fun q hq hc => hc.elim (h.ce q hq) (fun hl => by have := h.e.lt q hq; omega), h.ap⟩
theorem Rec.turn2 {w7 : World} (h : Rec w0 g C J A13 n13 c13 T A14 n14 c14 L A15 n15 c15 E wr) (hs : wr.heap.size ≤ w7.heap.size) (hJ : JIn w' 99 g (since w7 C w') J') (hK : Kept C wr w') : Rec w0 g (since w7 C w') J' A13 n13 c13 T A14 n14 c14 L A15 n15 c15 E w' :=
  ⟨hJ, since_ge (w := w7) (w' := w') h.lc (Nat.le_trans h.bl.size hs), h.bl.trans (hK.below h.bl.size (fun q _ hq => h.lc q hq)), h.t.apart hK h.ct, h.l.apart hK h.cl, h.e.apart hK h.ce,
   fun q hq hc => hc.elim (h.ct q hq) (fun hl => by have := (h.t.lt q hq).2; omega), fun q hq hc => hc.elim (h.cl q hq) (fun hl => by have := (h.l.lt q hq).2; omega), fun q hq hc => hc.elim (h.ce q hq) (fun hl => by have := h.e.lt q hq; omega), h.ap⟩
theorem Rec.tail (h : Rec w0 g C J A13 n13 c13 T A14 n14 c14 L A15 n15 c15 E wr) (ho : OwnB w' w0.heap.size A' n' c' L') (hg : wr.grownBy w' (A13.map (·.block))) (hat : A'.map (·.block) = A13.map (·.block) ∨ A'.map (·.block) = some wr.heap.size) :
    Rec w0 g C J A' n' c' L' A14 n14 c14 L A15 n15 c15 E w' :=
  ⟨h.j.grown hg h.ct, h.lc, below_grown h.bl h.bl.size h.t hg, ho, h.l.grown hg (by
      rcases h.l.map_form with e | ⟨q, _, e, _⟩
      · exact .inl e
      · exact .inr fun e' => h.ap q (by rw [← e', e]) e), h.e.beside h.t hg,
   fun q hq hc => by
     rcases hat with e | e
     · exact h.ct q (by rw [← e]; exact hq) hc
     · rw [e] at hq; cases hq; exact Nat.lt_irrefl _ (h.j.bd _ hc), h.cl, h.ce, fun q hq e2 => by
     rcases hat with e | e
     · exact h.ap q (by rw [← e]; exact hq) e2
     · rw [e] at hq; cases hq; exact Nat.lt_irrefl _ (h.l.lt _ e2).2⟩
theorem Rec.all (h : Rec w0 g C J A13 n13 c13 T A14 n14 c14 L A15 n15 c15 E wr) (ho : OwnB w' w0.heap.size A' n' c' L') (hg : wr.grownBy w' (A14.map (·.block))) (hat : A'.map (·.block) = A14.map (·.block) ∨ A'.map (·.block) = some wr.heap.size) :
    Rec w0 g C J A13 n13 c13 T A' n' c' L' A15 n15 c15 E w' :=
  ⟨h.j.grown hg h.cl, h.lc, below_grown h.bl h.bl.size h.l hg, h.t.grown hg (by
      rcases h.t.map_form with e | ⟨q, _, e, _⟩
      · exact .inl e
      · exact .inr fun e' => h.ap q e (by rw [← e', e])), ho, h.e.beside h.l hg, h.ct,
   fun q hq hc => by
     rcases hat with e | e
     · exact h.cl q (by rw [← e]; exact hq) hc
     · rw [e] at hq; cases hq; exact Nat.lt_irrefl _ (h.j.bd _ hc), h.ce, fun q hq e2 => by
     rcases hat with e | e
     · exact h.ap q hq (by rw [← e]; exact e2)
     · rw [e] at e2; cases e2; exact Nat.lt_irrefl _ (h.t.lt _ hq).2⟩
theorem Rec.ends (h : Rec w0 g C J A13 n13 c13 T A14 n14 c14 L A15 n15 c15 E wr) (ho : OwnI w' w0.heap.size A' n' c' E') (hg : wr.grownBy w' (A15.map (·.block))) (hat : A'.map (·.block) = A15.map (·.block) ∨ A'.map (·.block) = some wr.heap.size) :
    Rec w0 g C J A13 n13 c13 T A14 n14 c14 L A' n' c' E' w' :=
  ⟨h.j.grown hg h.ce, h.lc, below_grownI h.bl h.bl.size h.e hg, h.t.beside h.e hg, h.l.beside h.e hg, ho, h.ct, h.cl,
   fun q hq hc => by
     rcases hat with e | e
     · exact h.ce q (by rw [← e]; exact hq) hc
     · rw [e] at hq; cases hq; exact Nat.lt_irrefl _ (h.j.bd _ hc), h.ap⟩
theorem Rec.none (w0 wr : World) (g : Nat) (C : Nat → Prop) (J : JV) (hj : JIn wr 99 g C J) (lc : ∀ q, C q → w0.heap.size ≤ q) (bl : Below w0.heap.size w0 wr) : Rec w0 g C J Option.none 0 0 [] Option.none 0 0 [] Option.none 0 0 [] wr :=
  ⟨hj, lc, bl, OwnB.nil _ _, OwnB.nil _ _, OwnI.nil _ _, fun q hq => (by simp at hq), fun q hq => (by simp at hq), fun q hq => (by simp at hq), fun q hq => (by simp at hq)⟩
end
/-! ### What was handed out lies still -/
def Still (w3 : World) (base : Nat) (w' : World) : Prop := w3.heap.size ≤ w'.heap.size ∧ ∀ k, base ≤ k → k < w3.heap.size → w'.heap[k]? = w3.heap[k]?
theorem Still.refl (w3 : World) (base : Nat) : Still w3 base w3 := ⟨Nat.le_refl _, fun _ _ _ => rfl⟩
theorem Still.kept {w3 w w' : World} {base : Nat} {C : Nat → Prop} (h : Still w3 base w) (hK : Kept C w w') (hC : ∀ k, C k → k < base ∨ w3.heap.size ≤ k) : Still w3 base w' :=
  ⟨Nat.le_trans h.1 hK.size, fun k h1 h2 => (hK.block k (Nat.lt_of_lt_of_le h2 h.1) (fun hc => by rcases hC k hc with h | h <;> omega)).trans (h.2 k h1 h2)⟩
theorem Still.later {w3 w w' : World} {base : Nat} (h : Still w3 base w) (hb : Below w.heap.size w w') : Still w3 base w' := ⟨Nat.le_trans h.1 hb.size, fun k h1 h2 => (hb.block k (Nat.lt_of_lt_of_le h2 h.1)).trans (h.2 k h1 h2)⟩
theorem OwnB.still {w3 w' : World} {base n c : Nat} {A : Option Addr} {l : List UInt8} (h : OwnB w3 base A n c l) (hs : Still w3 base w') : OwnB w' base A n c l := by
  rcases h.2 with h0 | ⟨g, cap, cur, hv, hb, hg, rest⟩
  · exact ⟨h.1, .inl h0⟩
  · exact ⟨h.1, .inr ⟨g, cap, cur, hv, hb, (hs.2 g hb (Array.getElem?_eq_some_iff.1 hg).1).trans hg, rest⟩⟩
theorem OwnV.still {w3 w' : World} {base n c : Nat} {A : Option Addr} {vs : List Value} (h : OwnV w3 base A n c vs) (hs : Still w3 base w') : OwnV w' base A n c vs := by
  rcases h.2 with h0 | ⟨g, cap, cur, hv, hb, hg, rest⟩
  · exact ⟨h.1, .inl h0⟩
  · exact ⟨h.1, .inr ⟨g, cap, cur, hv, hb, (hs.2 g hb (Array.getElem?_eq_some_iff.1 hg).1).trans hg, rest⟩⟩
theorem Coll.still {w3 w' : World} {base nK cK nB cB : Nat} {AK AB : Option Addr} {ks : List UInt8} {bs : List (List UInt8)} (h : Coll w3 base AK nK cK ks AB nB cB bs) (hs : Still w3 base w') : Coll w' base AK nK cK ks AB nB cB bs := by
  obtain ⟨vs, hk, hv, he⟩ := open_coll h
  refine ⟨hk.still hs, vs, hv.still hs, he.1, fun i b hi => ?_⟩
  obtain ⟨A, n, c, hvi, ho, hne⟩ := he.2 i b hi
  exact ⟨A, n, c, hvi, ho.still hs, hne⟩
/-! ### The plain steps of the first loop -/
theorem recS_size (hs gs : Frs) (i : Nat) : (recS hs gs i).kept.length + (recS hs gs i).rest.length = flen (hs.take i) + flen (gs.take (i - hs.length)) := by
  unfold recS
  by_cases h : i < hs.length
  · rw [if_pos h, show i - hs.length = 0 by omega]
    simp [fcat_len, flen_nil]
  · rw [if_neg h]
    have : hs.take i = hs := List.take_of_length_le (by omega)
    simp only
    rw [fcat_len, fcat_len, this]
theorem recJ_size (hs gs : Frs) (i : Nat) : (recJ hs gs i).kept.length + (recJ hs gs i).rest.length = flen (hs.take i) + flen (gs.take (i - hs.length)) := by
  unfold recJ
  by_cases h : i ≤ hs.length
  · rw [if_pos h, show i - hs.length = 0 by omega]
    simp [fcat_len, flen_nil]
  · rw [if_neg h]
    have : hs.take i = hs := List.take_of_length_le (by omega)
    simp only
    rw [fcat_len, fcat_len, this]
theorem rec_lt {hs gs : Frs} {i : Nat} {k : UInt8} {b : List UInt8} (hf : (hs ++ gs)[i]? = some (k, b)) (h : i < hs.length) :
    fcat (hs.take (i + 1)) = fcat (hs.take i) ++ fput k b ∧ gs.take (i + 1 - hs.length) = gs.take (i - hs.length) ∧ (b.length ≤ 8192 → Fit (hs.take i) → Fit (hs.take (i + 1))) := by
  rw [List.getElem?_append_left h] at hf
  rw [take_snoc_of hf]
  exact ⟨by rw [fcat_append, fcat_cons, fcat_nil, List.append_nil], by rw [show i + 1 - hs.length = i - hs.length by omega], fun hb h => fit_snoc h hb⟩
theorem rec_ge {hs gs : Frs} {i : Nat} {k : UInt8} {b : List UInt8} (hf : (hs ++ gs)[i]? = some (k, b)) (h : hs.length ≤ i) :
    i + 1 - hs.length = (i - hs.length) + 1 ∧ fcat (gs.take (i - hs.length + 1)) = fcat (gs.take (i - hs.length)) ++ fput k b ∧ hs.take (i + 1) = hs.take i ∧ (b.length ≤ 8192 → Fit (gs.take (i - hs.length)) → Fit (gs.take (i - hs.length + 1))) := by
  rw [List.getElem?_append_right h] at hf
  rw [take_snoc_of hf]
  exact ⟨by omega, by rw [fcat_append, fcat_cons, fcat_nil, List.append_nil], by rw [List.take_of_length_le (by omega), List.take_of_length_le h], fun hb h => fit_snoc h hb⟩
theorem calmJ : -9223372036854775808 ≤ (-1 : Int) ∧ (-1 : Int) ≤ 9223372036854775807 := by decide
theorem fcat_take (gs : Frs) (m : Nat) : (fcat gs).take (flen (gs.take m)) = fcat (gs.take m) := by
  have h : fcat gs = fcat (gs.take m) ++ fcat (gs.drop m) := by rw [← fcat_append, List.take_append_drop]
  rw [h, List.take_left' (fcat_len _)]
theorem all_kept (hs gs : Frs) (m : Nat) : fcat hs ++ (fcat gs).take (flen (gs.take m)) = fcat (hs ++ gs.take m) := by rw [fcat_take, fcat_append]
theorem app_take_at {hs gs : Frs} {m j : Nat} (h : j < hs.length + m) : (hs ++ gs.take m)[j]? = (hs ++ gs)[j]? := by
  rcases Nat.lt_or_ge j hs.length with h1 | h1
  · rw [List.getElem?_append_left h1, List.getElem?_append_left h1]
  · rw [List.getElem?_append_right h1, List.getElem?_append_right h1, List.getElem?_take_of_lt (by omega)]
end Go.Proofs.YtddcfgbembjbhaaDoor
