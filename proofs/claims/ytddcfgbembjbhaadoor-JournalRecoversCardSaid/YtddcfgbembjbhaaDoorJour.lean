/- Journals: what they do, as a plain law; a journal in memory: no program's walk. -/
import Derived.Test.YtddcfgbembjbhaaDoorLists
import Derived.Test.YtddcfgbembjbhaaDoorInts
namespace Go.Proofs.YtddcfgbembjbhaaDoor
open Go.RowKit
set_option linter.unusedVariables false
/-! ### The plain law -/
structure JV where
  kept : List UInt8
  rest : List UInt8
  fuse : Int
  down : Bool
def JV.new : JV := ⟨[], [], -1, false⟩
/-- What an effect does to the fuse: its error, the journal behind it. -/
def JV.eff (J : JV) : Int × JV := if J.down then (61, J) else if J.fuse = 0 then (61, { J with fuse := -1, down := true }) else if 0 < J.fuse then (0, { J with fuse := J.fuse - 1 }) else (0, J)
def JV.append (k : UInt8) (b : List UInt8) (J : JV) : Int × JV :=
  if 8192 < b.length then (2, J) else if J.eff.1 = 0 then (0, { J.eff.2 with rest := J.rest ++ fput k b }) else J.eff
def JV.sync (J : JV) : Int × JV := if J.eff.1 = 0 then (0, { J.eff.2 with kept := J.kept ++ J.rest, rest := [] }) else J.eff
def JV.setFuse (n : Int) (J : JV) : JV := { J with fuse := max n (-1) }
def keepN (keep : Int) (J : JV) : Nat := (min (max keep 0) (J.rest.length : Int)).toNat
def JV.crash (keep : Int) (J : JV) : JV := ⟨J.kept ++ J.rest.take (keepN keep J), [], -1, true⟩
def JV.up (J : JV) : JV := { J with rest := [], down := false }
/-- What an opening tells, and the journal behind it. -/
def JV.open (J : JV) : (List (UInt8 × List UInt8) × Int) × JV :=
  if flen (frames J.kept) < J.kept.length then
    if J.up.eff.1 = 0 then ((frames J.kept, 0), { J.up.eff.2 with kept := J.kept.take (flen (frames J.kept)) }) else (([], J.up.eff.1), J.up.eff.2)
  else ((frames J.kept, 0), J.up)
/-! ### Of the blocks that there were, those in C alone have turned -/
structure Kept (C : Nat → Prop) (w w' : World) : Prop where
  os : w'.os = w.os
  tape : w'.tape = w.tape
  output : w'.output = w.output
  size : w.heap.size ≤ w'.heap.size
  block : ∀ k, k < w.heap.size → ¬ C k → w'.heap[k]? = w.heap[k]?
section
variable {C D : Nat → Prop} {w w' w'' : World}
theorem Kept.refl (C : Nat → Prop) (w : World) : Kept C w w := ⟨rfl, rfl, rfl, Nat.le_refl _, fun _ _ _ => rfl⟩
theorem Kept.mono (h : Kept C w w') (hC : ∀ k, k < w.heap.size → C k → D k) : Kept D w w' := ⟨h.os, h.tape, h.output, h.size, fun k hk hn => h.block k hk fun hc => hn (hC k hk hc)⟩
theorem Kept.trans (h : Kept C w w') (k : Kept D w' w'') (hD : ∀ i, i < w.heap.size → D i → C i) : Kept C w w'' :=
  ⟨k.os.trans h.os, k.tape.trans h.tape, k.output.trans h.output, Nat.le_trans h.size k.size, fun i hi hn => (k.block i (Nat.lt_of_lt_of_le hi h.size) fun hd => hn (hD i hi hd)).trans (h.block i hi hn)⟩
theorem Kept.drewN (h : Kept C w w') (n : Nat) : Kept C w (w'.drewN n) := ⟨h.os, h.tape, h.output, h.size, h.block⟩
theorem Kept.alloc (h : Kept C w w') (o : Obj) : Kept C w (w'.alloc o) :=
  ⟨h.os, h.tape, h.output, by have := h.size; simp; omega, fun k hk hn => (Below.heap_alloc w' o k (Nat.lt_of_lt_of_le hk h.size)).trans (h.block k hk hn)⟩
theorem Kept.setCell (h : Kept C w w') {p : Addr} (hp : p.block < w.heap.size → C p.block) (v : Value) : Kept C w (w'.setCell p v) :=
  ⟨h.os, h.tape, h.output, by have := h.size; simpa using this, fun k hk hn => (Below.heap_setCell w' p v k (fun e => hn (e ▸ hp (e ▸ hk)))).trans (h.block k hk hn)⟩
theorem Kept.grown (h : Kept C w w') {row : Option Nat} (hg : w'.grownBy w'' row) (hr : ∀ k, row = some k → k < w.heap.size → C k) : Kept C w w'' :=
  ⟨hg.os.trans h.os, hg.tape.trans h.tape, hg.output.trans h.output, Nat.le_trans h.size hg.size,
   fun k hk hn => (hg.block k (Nat.lt_of_lt_of_le hk h.size) fun e => hn (hr k e.symm hk)).trans (h.block k hk hn)⟩
theorem Kept.below (h : Kept C w w') {B : Nat} (hB : B ≤ w.heap.size) (hC : ∀ k, k < w.heap.size → C k → B ≤ k) : Below B w w' :=
  ⟨h.os, h.tape, h.output, h.size, fun k hk => h.block k (Nat.lt_of_lt_of_le hk hB) fun hc => by have := hC k (Nat.lt_of_lt_of_le hk hB) hc; omega⟩
theorem Kept.of_below (h : Below w.heap.size w w') : Kept C w w' := ⟨h.os, h.tape, h.output, h.size, fun k hk _ => h.block k hk⟩
end
/-! ### A journal in memory -/
def apart (A1 A2 : Option Addr) : Prop := ∀ k, A1.map (·.block) = some k → A2.map (·.block) ≠ some k
structure JAt (w : World) (t : TypeId) (g : Nat) (C : Nat → Prop) (J : JV) (A1 : Option Addr) (n1 c1 : Nat) (A2 : Option Addr) (n2 c2 : Nat) : Prop where
  blk : w.heap[g]? = some (.cells #[.slice A1 n1 c1, .slice A2 n2 c2, .int .i64 J.fuse, .bool J.down] t (0, 0))
  kept : OwnB w 0 A1 n1 c1 J.kept
  rest : OwnB w 0 A2 n2 c2 J.rest
  in0 : C g
  in1 : ∀ k, A1.map (·.block) = some k → C k
  in2 : ∀ k, A2.map (·.block) = some k → C k
  ap : apart A1 A2
  bd : ∀ k, C k → k < w.heap.size
/-- A journal of type t at block g, whose blocks are in C. -/
def JIn (w : World) (t : TypeId) (g : Nat) (C : Nat → Prop) (J : JV) : Prop := ∃ A1 n1 c1 A2 n2 c2, JAt w t g C J A1 n1 c1 A2 n2 c2
/-- C and what was laid since. -/
def since (w : World) (C : Nat → Prop) (w' : World) (k : Nat) : Prop := C k ∨ (w.heap.size ≤ k ∧ k < w'.heap.size)
section
variable {w w' : World} {t : TypeId} {g : Nat} {C : Nat → Prop} {J : JV} {A1 A2 : Option Addr} {n1 c1 n2 c2 : Nat}
theorem JAt.cell0 (h : JAt w t g C J A1 n1 c1 A2 n2 c2) : w.cell? ⟨g, 0, none⟩ = some (.slice A1 n1 c1) := by rw [cell_of_row _ _ _ _ _ _ h.blk]; rfl
theorem JAt.cell1 (h : JAt w t g C J A1 n1 c1 A2 n2 c2) : w.cell? ⟨g, 1, none⟩ = some (.slice A2 n2 c2) := by rw [cell_of_row _ _ _ _ _ _ h.blk]; rfl
theorem JAt.cell2 (h : JAt w t g C J A1 n1 c1 A2 n2 c2) : w.cell? ⟨g, 2, none⟩ = some (.int .i64 J.fuse) := by rw [cell_of_row _ _ _ _ _ _ h.blk]; rfl
theorem JAt.cell3 (h : JAt w t g C J A1 n1 c1 A2 n2 c2) : w.cell? ⟨g, 3, none⟩ = some (.bool J.down) := by rw [cell_of_row _ _ _ _ _ _ h.blk]; rfl
theorem JAt.frozen (h : JAt w t g C J A1 n1 c1 A2 n2 c2) (i : Nat) : w.frozen? ⟨g, i, none⟩ = false := by simp [World.frozen?, h.blk]
theorem JAt.lt (h : JAt w t g C J A1 n1 c1 A2 n2 c2) : g < w.heap.size := (Array.getElem?_eq_some_iff.1 h.blk).1
theorem heap_set (W : World) (g i : Nat) (cs : Array Value) (t : TypeId) (v : Value) (h : W.heap[g]? = some (.cells cs t (0, 0))) : (W.setCell ⟨g, i, none⟩ v).heap[g]? = some (.cells (cs.setIfInBounds i v) t (0, 0)) := by
  obtain ⟨hlt, hk⟩ := Array.getElem?_eq_some_iff.1 h
  show (W.heap.modify g _)[g]? = _
  rw [Array.getElem?_eq_getElem (by rw [Array.size_modify]; exact hlt), Array.getElem_modify_self, hk]
  rfl
theorem grownBy_cell (W : World) (g i : Nat) (v : Value) : W.grownBy (W.setCell ⟨g, i, none⟩ v) (some g) :=
  ⟨rfl, rfl, rfl, (KeepsWalks.setCell W _ v).size, fun k _ hk => Below.heap_setCell _ _ _ k (fun e => hk (by rw [e]))⟩
/-- Not a row of bytes. -/
theorem row_ne {w : World} {t : TypeId} {g base n c : Nat} {cs : Array Value} {A : Option Addr} {l : List UInt8} (ht : t ≠ 5) (hg : w.heap[g]? = some (.cells cs t (0, 0))) (h : OwnB w base A n c l) : A.map (·.block) = none ∨ A.map (·.block) ≠ some g := by
  rcases h.map_form with e | ⟨k, _, e, _, _, D, hD⟩
  · exact .inl e
  · refine .inr fun e' => ?_
    rw [e] at e'
    cases e'
    rw [hg] at hD
    simp at hD
    exact ht hD.2
theorem JAt.later (h : JAt w t g C J A1 n1 c1 A2 n2 c2) (hb : Below w.heap.size w w') : JAt w' t g C J A1 n1 c1 A2 n2 c2 :=
  ⟨(hb.block g h.lt).trans h.blk, h.kept.later hb, h.rest.later hb, h.in0, h.in1, h.in2, h.ap, fun k hk => Nat.lt_of_lt_of_le (h.bd k hk) hb.size⟩
theorem JAt.draws (h : JAt w t g C J A1 n1 c1 A2 n2 c2) (m : Nat) : JAt (w.drewN m) t g C J A1 n1 c1 A2 n2 c2 := h.later (below_draws (Below.refl _ w) m)
theorem JAt.more {D : Nat → Prop} (h : JAt w t g C J A1 n1 c1 A2 n2 c2) (hD : ∀ k, C k → D k) (hb : ∀ k, D k → k < w.heap.size) : JAt w t g D J A1 n1 c1 A2 n2 c2 :=
  ⟨h.blk, h.kept, h.rest, hD _ h.in0, fun k hk => hD k (h.in1 k hk), fun k hk => hD k (h.in2 k hk), h.ap, hb⟩
theorem JAt.setFuse (h : JAt w t g C J A1 n1 c1 A2 n2 c2) (ht : t ≠ 5) (f : Int) : JAt (w.setCell ⟨g, 2, none⟩ (.int .i64 f)) t g C { J with fuse := f } A1 n1 c1 A2 n2 c2 := by
  have hg := grownBy_cell w g 2 (.int .i64 f)
  exact ⟨heap_set w g 2 _ t _ h.blk, h.kept.grown hg (row_ne ht h.blk h.kept), h.rest.grown hg (row_ne ht h.blk h.rest), h.in0, h.in1, h.in2, h.ap, fun k hk => Nat.lt_of_lt_of_le (h.bd k hk) hg.size⟩
theorem JAt.setDown (h : JAt w t g C J A1 n1 c1 A2 n2 c2) (ht : t ≠ 5) (b : Bool) : JAt (w.setCell ⟨g, 3, none⟩ (.bool b)) t g C { J with down := b } A1 n1 c1 A2 n2 c2 := by
  have hg := grownBy_cell w g 3 (.bool b)
  exact ⟨heap_set w g 3 _ t _ h.blk, h.kept.grown hg (row_ne ht h.blk h.kept), h.rest.grown hg (row_ne ht h.blk h.rest), h.in0, h.in1, h.in2, h.ap, fun k hk => Nat.lt_of_lt_of_le (h.bd k hk) hg.size⟩
theorem JAt.noRest (h : JAt w t g C J A1 n1 c1 A2 n2 c2) (ht : t ≠ 5) : JAt (w.setCell ⟨g, 1, none⟩ (.slice none 0 0)) t g C { J with rest := [] } A1 n1 c1 none 0 0 := by
  have hg := grownBy_cell w g 1 (.slice none 0 0)
  exact ⟨heap_set w g 1 _ t _ h.blk, h.kept.grown hg (row_ne ht h.blk h.kept), OwnB.nil _ _, h.in0, h.in1, fun k hk => by simp at hk, fun k _ hk => by simp at hk, fun k hk => Nat.lt_of_lt_of_le (h.bd k hk) hg.size⟩
/-- The tail has grown (or was laid anew) and is stored. -/
theorem JAt.setRest (h : JAt w t g C J A1 n1 c1 A2 n2 c2) (ht : t ≠ 5) {A : Option Addr} {n c : Nat} {l : List UInt8} {row : Option Nat} (hg : w.grownBy w' row) (hr : ∀ r, row = some r → A2.map (·.block) = some r) (ho : OwnB w' 0 A n c l)
    (hat : A.map (·.block) = A2.map (·.block) ∨ ∀ k, A.map (·.block) = some k → w.heap.size ≤ k) : JAt (w'.setCell ⟨g, 1, none⟩ (.slice A n c)) t g (since w C w') { J with rest := l } A1 n1 c1 A n c := by
  have hne2 : ∀ r, row = some r → r ≠ g := fun r e => by
    rcases row_ne ht h.blk h.rest with e' | e'
    · rw [hr r e] at e'; cases e'
    · rw [hr r e] at e'; exact fun e'' => e' (by rw [e''])
  have hblk : w'.heap[g]? = some (.cells #[.slice A1 n1 c1, .slice A2 n2 c2, .int .i64 J.fuse, .bool J.down] t (0, 0)) := (hg.block g h.lt (fun e => hne2 g e.symm rfl)).trans h.blk
  have hk' : OwnB w' 0 A1 n1 c1 J.kept := h.kept.grown hg (by
    rcases h.kept.map_form with e | ⟨k, _, e, _⟩
    · exact .inl e
    · exact .inr fun e' => h.ap k e (hr k (by rw [← e', e])))
  have hgs := grownBy_cell w' g 1 (.slice A n c)
  have hlt1 : ∀ k, A1.map (·.block) = some k → k < w.heap.size := fun k e => h.bd k (h.in1 k e)
  refine ⟨heap_set w' g 1 _ t _ hblk, hk'.grown hgs (row_ne ht hblk hk'), ho.grown hgs (row_ne ht hblk ho), .inl h.in0, fun k hk => .inl (h.in1 k hk), fun k hk => ?_, fun k hk e => ?_, fun k hk => ?_⟩
  · rcases hat with e | e
    · exact .inl (h.in2 k (by rw [← e]; exact hk))
    · refine .inr ⟨e k hk, ?_⟩
      rcases ho.map_form with e' | ⟨k', _, e', _, hlt, _⟩
      · rw [hk] at e'; cases e'
      · rw [hk] at e'; cases e'; exact hlt
  · rcases hat with e' | e'
    · exact h.ap k hk (by rw [← e']; exact e)
    · have := e' k e
      have := hlt1 _ hk
      omega
  · rcases hk with hk | ⟨_, hk⟩
    · exact Nat.lt_of_lt_of_le (h.bd k hk) (Nat.le_trans hg.size hgs.size)
    · exact Nat.lt_of_lt_of_le hk hgs.size
/-- The synced bytes have grown (or were laid anew) and are stored. -/
theorem JAt.setKept (h : JAt w t g C J A1 n1 c1 A2 n2 c2) (ht : t ≠ 5) {A : Option Addr} {n c : Nat} {l : List UInt8} {row : Option Nat} (hg : w.grownBy w' row) (hr : ∀ r, row = some r → A1.map (·.block) = some r) (ho : OwnB w' 0 A n c l)
    (hat : A.map (·.block) = A1.map (·.block) ∨ ∀ k, A.map (·.block) = some k → w.heap.size ≤ k) : JAt (w'.setCell ⟨g, 0, none⟩ (.slice A n c)) t g (since w C w') { J with kept := l } A n c A2 n2 c2 := by
  have hne2 : ∀ r, row = some r → r ≠ g := fun r e => by
    rcases row_ne ht h.blk h.kept with e' | e'
    · rw [hr r e] at e'; cases e'
    · rw [hr r e] at e'; exact fun e'' => e' (by rw [e''])
  have hblk : w'.heap[g]? = some (.cells #[.slice A1 n1 c1, .slice A2 n2 c2, .int .i64 J.fuse, .bool J.down] t (0, 0)) := (hg.block g h.lt (fun e => hne2 g e.symm rfl)).trans h.blk
  have hk' : OwnB w' 0 A2 n2 c2 J.rest := h.rest.grown hg (by
    rcases h.rest.map_form with e | ⟨k, _, e, _⟩
    · exact .inl e
    · exact .inr fun e' => h.ap k (hr k (by rw [← e', e])) e)
  have hgs := grownBy_cell w' g 0 (.slice A n c)
  have hlt1 : ∀ k, A2.map (·.block) = some k → k < w.heap.size := fun k e => h.bd k (h.in2 k e)
  refine ⟨heap_set w' g 0 _ t _ hblk, ho.grown hgs (row_ne ht hblk ho), hk'.grown hgs (row_ne ht hblk hk'), .inl h.in0, fun k hk => ?_, fun k hk => .inl (h.in2 k hk), fun k e hk => ?_, fun k hk => ?_⟩
  · rcases hat with e | e
    · exact .inl (h.in1 k (by rw [← e]; exact hk))
    · refine .inr ⟨e k hk, ?_⟩
      rcases ho.map_form with e' | ⟨k', _, e', _, hlt, _⟩
      · rw [hk] at e'; cases e'
      · rw [hk] at e'; cases e'; exact hlt
  · rcases hat with e' | e'
    · exact h.ap k (by rw [← e']; exact e) hk
    · have := e' k e
      have := hlt1 _ hk
      omega
  · rcases hk with hk | ⟨_, hk⟩
    · exact Nat.lt_of_lt_of_le (h.bd k hk) (Nat.le_trans hg.size hgs.size)
    · exact Nat.lt_of_lt_of_le hk hgs.size
end
end Go.Proofs.YtddcfgbembjbhaaDoor
