/- Frames by sets of blocks; slices that are read; rows that a call may write: of whatever program. -/
import Derived.WalkKit
import Derived.WalkSpells
import Derived.Lib.Hide
import Derived.Deep.Draws
import Derived.Laws.AppendOwn
namespace Go.Proofs.Ytddcfgbembjbhaa
open Go.RowKit
set_option linter.unusedVariables false

/-! ### Frames -/
/-- Of the blocks that there were, those in C alone have turned. -/
structure Frame (C : Nat → Prop) (w w' : World) : Prop where
  os : w'.os = w.os
  tape : w'.tape = w.tape
  output : w'.output = w.output
  size : w.heap.size ≤ w'.heap.size
  block : ∀ k, k < w.heap.size → ¬ C k → w'.heap[k]? = w.heap[k]?

/-- No block at all. -/
def None (_ : Nat) : Prop := False
section
variable {C D : Nat → Prop} {w w' w'' : World}
theorem Frame.refl (C : Nat → Prop) (w : World) : Frame C w w := ⟨rfl, rfl, rfl, Nat.le_refl _, fun _ _ _ => rfl⟩
theorem Frame.mono (h : Frame C w w') (hC : ∀ k, k < w.heap.size → C k → D k) : Frame D w w' := ⟨h.os, h.tape, h.output, h.size, fun k hk hn => h.block k hk fun hc => hn (hC k hk hc)⟩
theorem Frame.trans (h : Frame C w w') (k : Frame D w' w'') (hD : ∀ i, i < w.heap.size → D i → C i) : Frame C w w'' :=
  ⟨k.os.trans h.os, k.tape.trans h.tape, k.output.trans h.output, Nat.le_trans h.size k.size, fun i hi hn => (k.block i (Nat.lt_of_lt_of_le hi h.size) fun hd => hn (hD i hi hd)).trans (h.block i hi hn)⟩
theorem Frame.drew (h : Frame C w w') : Frame C w w'.drew := ⟨h.os, h.tape, h.output, h.size, h.block⟩
theorem Frame.drewN (h : Frame C w w') (n : Nat) : Frame C w (w'.drewN n) := ⟨h.os, h.tape, h.output, h.size, h.block⟩
theorem Frame.alloc (h : Frame C w w') (o : Obj) : Frame C w (w'.alloc o) :=
  ⟨h.os, h.tape, h.output, by have := h.size; simp; omega, fun k hk hn => (Below.heap_alloc w' o k (Nat.lt_of_lt_of_le hk h.size)).trans (h.block k hk hn)⟩
theorem Frame.setCell (h : Frame C w w') {p : Addr} (hp : p.block < w.heap.size → C p.block) (v : Value) : Frame C w (w'.setCell p v) :=
  ⟨h.os, h.tape, h.output, by have := h.size; simpa using this, fun k hk hn => (Below.heap_setCell w' p v k (fun e => hn (e ▸ hp (e ▸ hk)))).trans (h.block k hk hn)⟩
theorem Frame.grown (h : Frame C w w') {row : Option Nat} (hg : w'.grownBy w'' row) (hr : ∀ k, row = some k → k < w.heap.size → C k) : Frame C w w'' :=
  ⟨hg.os.trans h.os, hg.tape.trans h.tape, hg.output.trans h.output, Nat.le_trans h.size hg.size,
   fun k hk hn => (hg.block k (Nat.lt_of_lt_of_le hk h.size) fun e => hn (hr k e.symm hk)).trans (h.block k hk hn)⟩
theorem Frame.below (h : Frame C w w') {B : Nat} (hB : B ≤ w.heap.size) (hC : ∀ k, k < w.heap.size → C k → B ≤ k) : Below B w w' :=
  ⟨h.os, h.tape, h.output, h.size, fun k hk => h.block k (Nat.lt_of_lt_of_le hk hB) fun hc => by have := hC k (Nat.lt_of_lt_of_le hk hB) hc; omega⟩
theorem Frame.of_below (h : Below w.heap.size w w') : Frame C w w' := ⟨h.os, h.tape, h.output, h.size, fun k hk _ => h.block k hk⟩
theorem Frame.of_none (h : Frame None w w') : Below w.heap.size w w' := h.below (Nat.le_refl _) fun _ _ hc => hc.elim
theorem Frame.cell (h : Frame C w w') {p : Addr} (hp : p.block < w.heap.size) (hn : ¬ C p.block) : w'.cell? p = w.cell? p := World.cell?_of_block (h.block p.block hp hn)
theorem Frame.frozen (h : Frame C w w') {p : Addr} (hp : p.block < w.heap.size) (hn : ¬ C p.block) : w'.frozen? p = w.frozen? p := World.frozen?_of_block (h.block p.block hp hn)
end

/-! ### A slice that is read -/
/-- The slice 'A' of n elements of sz cells reads as the cells 'xs', and lies in a block in R. -/
def Cells (w : World) (R : Nat → Prop) (A : Option Addr) (n sz : Nat) (xs : List Value) : Prop :=
  xs.length = n * sz ∧ (0 < n → ∃ b o, A = some ⟨b, o, none⟩ ∧ b < w.heap.size ∧ R b ∧ ∀ (j : Nat) (u : Value), xs[j]? = some u → w.cell? ⟨b, o + j, none⟩ = some u)
section
variable {w w' : World} {R R' C : Nat → Prop} {A : Option Addr} {n sz : Nat} {xs : List Value}
theorem Cells.frame (h : Cells w R A n sz xs) (hf : Frame C w w') (hd : ∀ k, R k → ¬ C k) : Cells w' R A n sz xs :=
  ⟨h.1, fun hn => by
    obtain ⟨b, o, e, hb, hr, hc⟩ := h.2 hn
    exact ⟨b, o, e, Nat.lt_of_lt_of_le hb hf.size, hr, fun j u hu => (hf.cell (p := ⟨b, o + j, none⟩) hb (hd b hr)).trans (hc j u hu)⟩⟩
theorem Cells.mono (h : Cells w R A n sz xs) (hR : ∀ k, k < w.heap.size → R k → R' k) : Cells w R' A n sz xs :=
  ⟨h.1, fun hn => by
    obtain ⟨b, o, e, hb, hr, hc⟩ := h.2 hn
    exact ⟨b, o, e, hb, hR b hb hr, hc⟩⟩
theorem Cells.none_ (w : World) (R : Nat → Prop) (A : Option Addr) (sz : Nat) : Cells w R A 0 sz [] := ⟨by simp, fun h => absurd h (by omega)⟩
theorem Cells.later (h : Cells w R A n sz xs) (hb : Below w.heap.size w w') : Cells w' R A n sz xs := h.frame (C := None) (Frame.of_below hb) fun _ _ hc => hc
end
theorem add_lit (b o j : Nat) : (⟨b, o, none⟩ : Addr).add j = ⟨b, o + j, none⟩ := by unfold Addr.add; split <;> simp_all

/-! ### A row that the call may write -/
/-- The slice 'A, n, c' lies at the head of a block of element type e that is not below base, and reads as the cells 'xs'. -/
def Row (w : World) (e : TypeId) (base : Nat) (A : Option Addr) (n c sz : Nat) (xs : List Value) : Prop :=
  xs.length = n * sz ∧ ((A = none ∧ n = 0 ∧ c = 0) ∨
    ∃ g cur, A = some ⟨g, 0, none⟩ ∧ base ≤ g ∧ w.heap[g]? = some (.cells cur e (0, 0)) ∧ n ≤ c ∧ c * sz ≤ cur.size ∧ cur.toList.take (n * sz) = xs)
def inRow (A : Option Addr) (k : Nat) : Prop := A.map (·.block) = some k
section
variable {w w' : World} {e : TypeId} {base n c sz : Nat} {A : Option Addr} {xs : List Value}
theorem Row.nil (w : World) (e : TypeId) (base sz : Nat) : Row w e base none 0 0 sz [] := ⟨by simp, .inl ⟨rfl, rfl, rfl⟩⟩
theorem Row.made (w : World) (e : TypeId) (base sz g n : Nat) (C : Array Value) (xs : List Value) (hg : g = w.heap.size) (hb : base ≤ g) (hx : xs.length = n * sz) (hC : C.toList = xs) : Row (w.alloc (.cells C e)) e base (some ⟨g, 0, none⟩) n n sz xs := by
  subst hg
  have hs : C.size = n * sz := by rw [← Array.length_toList, hC, hx]
  exact ⟨hx, .inr ⟨w.heap.size, C, rfl, hb, heap_alloc_new w _, Nat.le_refl _, by omega, by rw [hC, ← hx, List.take_length]⟩⟩
theorem Row.block (h : Row w e base A n c sz xs) (k : Nat) (hk : inRow A k) : base ≤ k ∧ k < w.heap.size := by
  rcases h.2 with ⟨rfl, _⟩ | ⟨g, cur, rfl, hb, hg, _⟩
  · simp [inRow] at hk
  · simp [inRow] at hk
    subst hk
    exact ⟨hb, (Array.getElem?_eq_some_iff.1 hg).1⟩
theorem Row.kept (h : Row w e base A n c sz xs) (hk : ∀ k, inRow A k → w'.heap[k]? = w.heap[k]?) : Row w' e base A n c sz xs := by
  refine ⟨h.1, ?_⟩
  rcases h.2 with h0 | ⟨g, cur, rfl, hb, hg, rest⟩
  · exact .inl h0
  · exact .inr ⟨g, cur, rfl, hb, (hk g rfl).trans hg, rest⟩
theorem Row.frame {C : Nat → Prop} (h : Row w e base A n c sz xs) (hf : Frame C w w') (hd : ∀ k, inRow A k → ¬ C k) : Row w' e base A n c sz xs :=
  h.kept fun k hk => hf.block k (h.block k hk).2 (hd k hk)
theorem Row.later (h : Row w e base A n c sz xs) (hb : Below w.heap.size w w') : Row w' e base A n c sz xs := h.kept fun k hk => hb.block k (h.block k hk).2
theorem Row.drew (h : Row w e base A n c sz xs) : Row w.drew e base A n c sz xs := h
theorem Row.alloc (h : Row w e base A n c sz xs) (o : Obj) : Row (w.alloc o) e base A n c sz xs := h.later ((Below.refl _ _).alloc (Nat.le_refl _) o)
theorem Row.cells (h : Row w e base A n c sz xs) : Cells w (inRow A) A n sz xs := by
  refine ⟨h.1, fun hn => ?_⟩
  rcases h.2 with ⟨_, h0, _⟩ | ⟨g, cur, rfl, hb, hg, hnc, hcs, ht⟩
  · omega
  · refine ⟨g, 0, rfl, (Array.getElem?_eq_some_iff.1 hg).1, rfl, fun j u hu => ?_⟩
    rw [Nat.zero_add, cell_of_row w g j cur e (0, 0) hg]
    rw [← ht, List.getElem?_take] at hu
    split at hu
    · simpa using hu
    · cases hu
theorem Row.frozen {g : Nat} (h : Row w e base (some ⟨g, 0, none⟩) n c sz xs) (i : Nat) : w.frozen? ⟨g, i, none⟩ = false := by
  rcases h.2 with ⟨hA, _⟩ | ⟨g', cur, hA, _, hg, _⟩
  · cases hA
  · injection hA with hA
    injection hA with hA
    subst hA
    unfold World.frozen?
    rw [hg]
    simp
theorem Row.form (h : Row w e base A n c sz xs) (hn : 0 < n) : ∃ g, A = some ⟨g, 0, none⟩ ∧ base ≤ g ∧ g < w.heap.size ∧ n ≤ c := by
  rcases h.2 with ⟨_, h0, _⟩ | ⟨g, cur, rfl, hb, hg, hnc, _⟩
  · omega
  · exact ⟨g, rfl, hb, (Array.getElem?_eq_some_iff.1 hg).1, hnc⟩
theorem Row.at_ {j : Nat} (h : Row w e base A n c 1 xs) (hj : j < n) : ∃ g u, A = some ⟨g, 0, none⟩ ∧ base ≤ g ∧ g < w.heap.size ∧ n ≤ c ∧ xs[j]? = some u ∧ w.cell? ⟨g, j, none⟩ = some u ∧ w.frozen? ⟨g, j, none⟩ = false := by
  obtain ⟨g, rfl, hb, hg, hnc⟩ := h.form (by omega)
  obtain ⟨b, o, e1, _, _, hc⟩ := h.cells.2 (by omega)
  injection e1 with e1
  injection e1 with e1 e2
  subst e1 e2
  have hx := h.1
  have hj' : j < xs.length := by omega
  have := hc j xs[j] (List.getElem?_eq_getElem hj')
  rw [Nat.zero_add] at this
  exact ⟨g, xs[j], rfl, hb, hg, hnc, List.getElem?_eq_getElem hj', this, h.frozen j⟩
theorem Row.le (h : Row w e base A n c sz xs) : n ≤ c := by
  rcases h.2 with ⟨_, h0, h1⟩ | ⟨g, cur, rfl, hb, hg, hnc, _⟩ <;> omega
theorem Row.take {k d : Nat} (h : Row w e base A n c sz xs) (hk : k ≤ n) (hd : k ≤ d) (hdc : d ≤ c) : Row w e base A k d sz (xs.take (k * sz)) := by
  have hx := h.1
  rcases h.2 with ⟨rfl, rfl, rfl⟩ | ⟨g, cur, rfl, hb, hg, hnc, hcs, ht⟩
  · obtain rfl : k = 0 := by omega
    obtain rfl : d = 0 := by omega
    exact ⟨by simp, .inl ⟨rfl, rfl, rfl⟩⟩
  · refine ⟨?_, .inr ⟨g, cur, rfl, hb, hg, hd, ?_, ?_⟩⟩
    · rw [List.length_take, hx]
      exact Nat.min_eq_left (Nat.mul_le_mul_right _ hk)
    · exact Nat.le_trans (Nat.mul_le_mul_right _ hdc) hcs
    · rw [← ht, List.take_take, Nat.min_eq_left (Nat.mul_le_mul_right _ hk)]
theorem Row.set {g : Nat} (h : Row w e base (some ⟨g, 0, none⟩) n c sz xs) (i : Nat) (v : Value) : Row (w.setCell ⟨g, i, none⟩ v) e base (some ⟨g, 0, none⟩) n c sz (xs.set i v) := by
  have hx := h.1
  rcases h.2 with ⟨hA, _⟩ | ⟨g', cur, hA, hb, hg, hnc, hcs, ht⟩
  · cases hA
  · injection hA with hA
    injection hA with hA
    subst hA
    refine ⟨by simpa using hx, .inr ⟨g, cur.setIfInBounds i v, rfl, hb, ?_, hnc, by simpa using hcs, ?_⟩⟩
    · simp [World.setCell, Array.getElem?_modify, hg]
    · rw [Array.toList_setIfInBounds, List.take_set, ht]
end

/-! ### append -/
section
variable {P : Program} {w : World}
theorem run_append_row {t e : TypeId} {z : Value} {sz bytes : Nat} (ht : P.underlying t = some (.slice e)) (hinfo : (P.info? e).map (fun i => (i.zero, i.size, i.bytes)) = some (some z, sz, bytes)) (hzs : z.cells.size = sz) (hsz : 0 < sz)
    {base n c : Nat} {A : Option Addr} {xs : List Value} (hrow : Row w e base A n c sz xs) {R : Nat → Prop} {m : Nat} (c2 : Nat) {A2 : Option Addr} {ys : List Value} (hsrc : Cells w R A2 m sz ys) (h1 : ∀ u ∈ ys, u.oneCell' = true)
    (hn : n + m ≤ 4611686018427387904) (hbytes : (n + m) * bytes ≤ 140737488355328) (hbase : base ≤ w.heap.size) (ty : TypeId) :
    ∃ A' c' w', (Builtin.append_ #[t, t] ty #[.slice A n c, .slice A2 m c2]).run P w = .ok (.slice A' (n + m) c') w' ∧ Row w' e base A' (n + m) c' sz (xs ++ ys) ∧ w.grownBy w' (A.map (·.block)) ∧
      (A'.map (·.block) = A.map (·.block) ∨ (A'.map (·.block) = some w.heap.size)) ∧ (m = 0 → A' = A) := by
  obtain ⟨i0, hi, hz0, hz1, hz2⟩ := info_parts hinfo
  subst hz1
  subst hz2
  have hxl := hrow.1
  have hyl := hsrc.1
  have hlen : (xs ++ ys).length = (n + m) * i0.size := by rw [List.length_append, hxl, hyl, Nat.add_mul]
  rcases Nat.eq_zero_or_pos m with rfl | hm
  · have hy0 : ys = [] := List.eq_nil_of_length_eq_zero (by simpa using hyl)
    subst hy0
    refine ⟨A, c, w, ?_, by simpa using hrow, World.grownBy.refl w _, .inl rfl, fun _ => rfl⟩
    rcases hrow.2 with ⟨rfl, rfl, rfl⟩ | ⟨g, cur, rfl, _, _, hnc, _⟩
    · cases A2 <;> simp [Builtin.append_, run_underlying ht, sizeOf, typeInfo, hi, Builtin.lenOf, Builtin.firstCells, loadCells, loadCellsFrom]
    · cases A2 <;> simp [Builtin.append_, run_underlying ht, sizeOf, typeInfo, hi, Builtin.lenOf, Builtin.firstCells, loadCells, loadCellsFrom, hnc, storeCells]
  · obtain ⟨b, o, rfl, _, _, hc⟩ := hsrc.2 hm
    have hnews : ∀ j u, ys[j]? = some u → w.cell? ((⟨b, o, none⟩ : Addr).add j) = some u := fun j u hu => by rw [add_lit]; exact hc j u hu
    have grown : ∀ (old : Nat), old < n + m → ∀ row,
        Row (w.drew.alloc (.cells (xs.toArray ++ ys.toArray ++ Builtin.zeroCells z.cells (grownCap w (n + m) old e - (n + m))) e)) e base (some ⟨w.heap.size, 0, none⟩) (n + m) (grownCap w (n + m) old e) i0.size (xs ++ ys) ∧
        w.grownBy (w.drew.alloc (.cells (xs.toArray ++ ys.toArray ++ Builtin.zeroCells z.cells (grownCap w (n + m) old e - (n + m))) e)) row := by
      intro old ho row
      have hge := grownCap_ge w (n + m) old e
      refine ⟨⟨hlen, .inr ⟨w.heap.size, _, rfl, hbase, heap_alloc_new w.drew _, hge, ?_, ?_⟩⟩, ⟨rfl, rfl, rfl, by simp, fun k hk _ => Below.heap_alloc w.drew _ k hk⟩⟩
      · simp only [Array.size_append, List.size_toArray, size_zeroCells, hzs, hxl, hyl, ← Nat.add_mul]
        exact Nat.mul_le_mul_right _ (by omega)
      · simp only [Array.toList_append, List.append_assoc]
        rw [← List.append_assoc, ← hlen]
        exact List.take_left
    rcases hrow.2 with ⟨rfl, rfl, rfl⟩ | ⟨g, cur, rfl, hbg, hg, hnc, hcs, htake⟩
    · have hx : xs = [] := List.eq_nil_of_length_eq_zero (by simpa using hxl)
      subst hx
      have hr := run_append_nil (P := P) w t ty e i0 z ht hi hz0 ⟨b, o, none⟩ m c2 ys hyl hnews hm (by omega) (by simp only [Nat.zero_add] at hbytes; omega)
      have hgr := grown 0 (by omega) (Option.map (fun x : Addr => x.block) none)
      simp only [Nat.zero_add, List.nil_append, Array.empty_append] at hgr ⊢
      exact ⟨_, _, _, hr, hgr.1, hgr.2, .inr rfl, fun h => by omega⟩
    · by_cases hroom : n + m ≤ c
      · have hfit : n * i0.size + ys.length ≤ cur.size := by rw [hyl, ← Nat.add_mul]; exact Nat.le_trans (Nat.mul_le_mul_right _ hroom) hcs
        have hr := run_append_room (P := P) w t ty e i0 ht hi g n c cur hg ⟨b, o, none⟩ m c2 ys hyl hnews h1 hroom hfit
        refine ⟨_, _, _, hr, ⟨hlen, .inr ⟨g, _, rfl, hbg, setRow_heap w g cur _ e _ hg, hroom, ?_, ?_⟩⟩, ⟨rfl, rfl, rfl, by simp, fun k _ hk => setRow_other w g k _ (fun e => hk (by simp [e]))⟩, .inl rfl, fun h => by omega⟩
        · simp only [List.size_toArray, List.length_append, List.length_take, List.length_drop, Array.length_toList]
          omega
        · rw [htake, ← hlen]
          exact List.take_left
      · have holds : ∀ j u, xs[j]? = some u → w.cell? ((⟨g, 0, none⟩ : Addr).add j) = some u := fun j u hu => by
          rw [add_lit, Nat.zero_add, cell_of_row w g j cur e (0, 0) hg]
          rw [← htake, List.getElem?_take] at hu
          split at hu
          · simpa using hu
          · cases hu
        have hr := run_append_grow (P := P) w t ty e i0 z ht hi hz0 ⟨g, 0, none⟩ n c xs hxl holds ⟨b, o, none⟩ m c2 ys hyl hnews (by omega) (by omega) (growslice_fits (by omega) hbytes)
        have hgr := grown c (by omega) (Option.map (fun x : Addr => x.block) (some ⟨g, 0, none⟩))
        exact ⟨_, _, _, hr, hgr.1, hgr.2, .inr rfl, fun h => by omega⟩

theorem wp_append_row {o : Oper} {a : Act} {K : Act → World → Prop} {Q : Exit → Act → World → Prop} (s x : Operand) {t e : TypeId} {z : Value} {sz bytes : Nat}
    (ho : o.op = .call { callee := .builtin .append, args := #[s, x], argTypes := #[t, t] }) (ht : P.underlying t = some (.slice e)) (hinfo : (P.info? e).map (fun i => (i.zero, i.size, i.bytes)) = some (some z, sz, bytes)) (hzs : z.cells.size = sz) (hsz : 0 < sz)
    {base n c : Nat} {A : Option Addr} {xs : List Value} (hs : a.eval s = .slice A n c) (hrow : Row w e base A n c sz xs) {R : Nat → Prop} {m c2 : Nat} {A2 : Option Addr} {ys : List Value} (hx : a.eval x = .slice A2 m c2) (hsrc : Cells w R A2 m sz ys) (h1 : ∀ u ∈ ys, u.oneCell' = true)
    (hn : n + m ≤ 4611686018427387904) (hbytes : (n + m) * bytes ≤ 140737488355328) (hbase : base ≤ w.heap.size)
    (h : ∀ A' c' w', Row w' e base A' (n + m) c' sz (xs ++ ys) → w.grownBy w' (A.map (·.block)) → (A'.map (·.block) = A.map (·.block) ∨ (A'.map (·.block) = some w.heap.size)) → (m = 0 → A' = A) → K (a.put o.dst (.slice A' (n + m) c')) w') : o.wp P a w K Q := by
  obtain ⟨A', c', w', hrun, h2, h3, h4, h5⟩ := run_append_row ht hinfo hzs hsz hrow c2 hsrc h1 hn hbytes hbase o.type
  unfold Oper.wp execOp
  simp only [ho, resolve, invoke, builtin, Sem.run_bind, Sem.run_pure, Result.andThen_ok, List.map_toArray, List.map_cons, List.map_nil, hs, hx, hrun]
  exact h A' c' w' h2 h3 h4 h5
/-- In a statement of fixed order. -/
theorem wpList_append_row {ops : Array Oper} {rest : List Oper} {o : Oper} {a : Act} {Q : Exit → Act → World → Prop} (hgd : o.guard = none) (s x : Operand) {t e : TypeId} {z : Value} {sz bytes : Nat}
    (ho : o.op = .call { callee := .builtin .append, args := #[s, x], argTypes := #[t, t] }) (ht : P.underlying t = some (.slice e)) (hinfo : (P.info? e).map (fun i => (i.zero, i.size, i.bytes)) = some (some z, sz, bytes)) (hzs : z.cells.size = sz) (hsz : 0 < sz)
    {base n c : Nat} {A : Option Addr} {xs : List Value} (hs : a.eval s = .slice A n c) (hrow : Row w e base A n c sz xs) {R : Nat → Prop} {m c2 : Nat} {A2 : Option Addr} {ys : List Value} (hx : a.eval x = .slice A2 m c2) (hsrc : Cells w R A2 m sz ys) (h1 : ∀ u ∈ ys, u.oneCell' = true)
    (hn : n + m ≤ 4611686018427387904) (hbytes : (n + m) * bytes ≤ 140737488355328) (hbase : base ≤ w.heap.size)
    (h : ∀ A' c' w', Row w' e base A' (n + m) c' sz (xs ++ ys) → w.grownBy w' (A.map (·.block)) → (A'.map (·.block) = A.map (·.block) ∨ (A'.map (·.block) = some w.heap.size)) → (m = 0 → A' = A) → wpList P ops Q rest (a.put o.dst (.slice A' (n + m) c')) w') : wpList P ops Q (o :: rest) a w :=
  wpList_plain hgd fun _ hK => wp_append_row s x ho ht hinfo hzs hsz hs hrow hx hsrc h1 hn hbytes hbase fun A' c' w' h2 h3 h4 h5 => hK _ _ (h A' c' w' h2 h3 h4 h5)
/-- In a statement of open order. -/
theorem step_append_row {ops : Array Oper} {o : Oper} {a : Act} {K : Act → World → Prop} {Q : Exit → Act → World → Prop} {E : Prop} (hgd : Region.wanted o (yielded ops a.tmps) = true) (s x : Operand) {t e : TypeId} {z : Value} {sz bytes : Nat}
    (ho : o.op = .call { callee := .builtin .append, args := #[s, x], argTypes := #[t, t] }) (ht : P.underlying t = some (.slice e)) (hinfo : (P.info? e).map (fun i => (i.zero, i.size, i.bytes)) = some (some z, sz, bytes)) (hzs : z.cells.size = sz) (hsz : 0 < sz)
    {base n c : Nat} {A : Option Addr} {xs : List Value} (hs : a.eval s = .slice A n c) (hrow : Row w e base A n c sz xs) {R : Nat → Prop} {m c2 : Nat} {A2 : Option Addr} {ys : List Value} (hx : a.eval x = .slice A2 m c2) (hsrc : Cells w R A2 m sz ys) (h1 : ∀ u ∈ ys, u.oneCell' = true)
    (hn : n + m ≤ 4611686018427387904) (hbytes : (n + m) * bytes ≤ 140737488355328) (hbase : base ≤ w.heap.size)
    (h : ∀ A' c' w', Row w' e base A' (n + m) c' sz (xs ++ ys) → w.grownBy w' (A.map (·.block)) → (A'.map (·.block) = A.map (·.block) ∨ (A'.map (·.block) = some w.heap.size)) → (m = 0 → A' = A) → K (a.put o.dst (.slice A' (n + m) c')) w') :
    if Region.wanted o (yielded ops a.tmps) = true then Oper.wp P o a w K Q else E := by
  rw [if_pos hgd]
  exact wp_append_row s x ho ht hinfo hzs hsz hs hrow hx hsrc h1 hn hbytes hbase h
end
end Go.Proofs.Ytddcfgbembjbhaa
