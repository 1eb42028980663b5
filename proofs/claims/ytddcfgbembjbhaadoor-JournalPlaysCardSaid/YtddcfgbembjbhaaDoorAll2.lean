/- Frames: all of them: the program's All. -/
import Derived.Test.YtddcfgbembjbhaaDoorHeld
namespace Go.Proofs.YtddcfgbembjbhaaDoor
open Go.RowKit Go.Shelf
set_option linter.unusedVariables false
set_option linter.unusedSimpArgs false
attribute [local go_sem] Oper.semAt_some

/-- A range over a function, entered: what its iterator's call owes. -/
theorem range_enter {F : Fence} {n : Nat} {P : Program} {g : Operand} {ps : Array Tmp} {assign body : Code} {Q : Exit → Act → World → Prop} {a : Act} {w : World} (hro : F.round = none) (h1 : 1 ≤ n) {gf : Nat} {lb : Array Value}
    (hg : a.eval g = .func (.func gf) #[] lb) (hF : F.fn gf) (eg : ∀ args w, (callFunc gf args).run P w = .ok (.enter gf args) w)
    (h : ∀ rec : Loop, F.fn rec.fn → rec.state = .ready → rec.pending = none → rec.tmps = a.tmps → rec.params = ps → rec.assign = assign → rec.body = body →
      CallsIn F (n - 1) P gf (#[.func (.yield (w.heap.size + 1)) #[] #[]] ++ lb) ((w.alloc (.deferred (some []))).alloc (.loop rec)) (rangePost F n P (w.heap.size + 1) Q { a with defers := { target := .collected w.heap.size, args := #[] } :: a.defers })) :
    (Code.rangeFunc g ps assign body).wpIn F n P Q a w :=
  wpIn_rangeFunc fun fn hfn => by
    rw [hro]
    refine ⟨_, _, _, { target := .fn (.func gf) lb, args := #[.func (.yield (w.heap.size + 1)) #[] #[]] }, (w.alloc (.deferred (some []))).alloc (.loop { state := .ready, pending := none, fn, tmps := a.tmps, params := ps, assign, body, defers := w.heap.size }), gf, _, _, run_enterLoop_outer _ _ _ _ _, ?_, ?_, ?_, fun _ => h1, h { state := .ready, pending := none, fn, tmps := a.tmps, params := ps, assign, body, defers := w.heap.size } hfn rfl rfl rfl rfl rfl rfl⟩
    · simp only [resolve, hg]
      simp [go_sem]
    · intro f' hf'
      simp [Target.leads] at hf'
      subst hf'
      exact hF
    · simp [invoke, go_sem, eg]
/-- One round, out of the walk of its two codes. -/
theorem round_at {F : Fence} {n L : Nat} {P : Program} {rec : Loop} {W : World} {args : Array Value} {R : Ending → World → Prop} (hl : W.heap[L]? = some (.loop rec)) (hs : args.size = rec.params.size) (hfn : F.fn rec.fn)
    (h : rec.assign.wpIn (F.inRound L) n P (Exit.then (fun a₁ w₁ => ∃ w₂, (Instr.beginRound L).run P w₁ = .ok () w₂ ∧ rec.body.wpIn (F.inRound L) n P (roundPost P L R) a₁ w₂) (fun _ _ _ => False))
      { tmps := (rec.params.zip args).foldl (fun tmps (t, a) => tmps.setIfInBounds t a) rec.tmps, defers := [] } W) : YieldAt F n P L args W R :=
  ⟨rec.fn, _, _, _, run_yield hl hs, roundIn_of_wpIn hfn h⟩
theorem Coll.under {w w' : World} {base nK cK nB cB r : Nat} {AK AB : Option Addr} {ks : List UInt8} {bs : List (List UInt8)} (h : Coll w base AK nK cK ks AB nB cB bs) (hg : w.grownBy w' (some r)) (hr : r < base) : Coll w' base AK nK cK ks AB nB cB bs := by
  obtain ⟨vs, hk, hv, he⟩ := open_coll h
  have hB : ∀ {A : Option Addr} {n c : Nat} {l : List UInt8}, OwnB w base A n c l → OwnB w' base A n c l := fun {A n c l} ho => ho.grown hg (by
    rcases ho.map_form with e | ⟨g, _, e, hb, _⟩
    · exact .inl e
    · exact .inr fun e' => by rw [e] at e'; cases e'; omega)
  refine ⟨hB hk, vs, hv.grown hg ?_, he.1, fun i b hi => ?_⟩
  · rcases hv.form with ⟨rfl, _⟩ | ⟨g, rfl, hb, _⟩
    · exact .inl rfl
    · exact .inr fun e => by simp at e; omega
  · obtain ⟨A, n, c, hvi, ho, hne⟩ := he.2 i b hi
    exact ⟨A, n, c, hvi, hB ho, hne⟩
theorem OwnB.under {w w' : World} {base n c r : Nat} {A : Option Addr} {l : List UInt8} (h : OwnB w base A n c l) (hg : w.grownBy w' (some r)) (hr : r < base) : OwnB w' base A n c l := h.grown hg (by
  rcases h.map_form with e | ⟨g, _, e, hb, _⟩
  · exact .inl e
  · exact .inr fun e' => by rw [e] at e'; cases e'; omega)
theorem below_put {w w' : World} {B r : Nat} (hb : Below B w w') (hB : B ≤ w.heap.size) (hr : B ≤ r) (o : Obj) : Below B w (w'.putObj r o) := hb.grown (grownBy_putObj' w' r o) (Nat.le_trans hB hb.size) (fun k e => by cases e; exact hr)
theorem Coll.lower {w : World} {base base' nK cK nB cB : Nat} {AK AB : Option Addr} {ks : List UInt8} {bs : List (List UInt8)} (h : Coll w base' AK nK cK ks AB nB cB bs) (hb : base ≤ base') : Coll w base AK nK cK ks AB nB cB bs := by
  obtain ⟨vs, hk, hv, he⟩ := open_coll h
  refine ⟨hk.lower hb, vs, ⟨hv.1, ?_⟩, he.1, fun i b hi => ?_⟩
  · rcases hv.2 with h | ⟨g, cap, cur, e, hg, h⟩
    · exact .inl h
    · exact .inr ⟨g, cap, cur, e, by omega, h⟩
  · obtain ⟨A, n, c, hvi, ho, hne⟩ := he.2 i b hi
    exact ⟨A, n, c, hvi, ho.lower hb, hne⟩
theorem boxed_later {w w' : World} {B : Nat} {t : TypeId} {v : Value} (h : Boxed w B t v) (hb : Below w.heap.size w w') : Boxed w' B t v := (hb.block B h.lt).trans h
/-- What holds between two rounds: the loop's record (block D + 1), the block for deferred calls (D), All's own boxes, what was collected. -/
structure AllJ (w : World) (D : Nat) (rec : Loop) (A : Option Addr) (n c : Nat) (pre : List (UInt8 × List UInt8)) (i : Nat) (W : World) : Prop where
  loop : W.heap[D + 1]? = some (.loop rec)
  defer : W.heap[D]? = some (.deferred (some []))
  mine : ∃ AK nK cK AB nB cB, Boxed W w.heap.size 23 (.slice AK nK cK) ∧ Boxed W (w.heap.size + 1) 61 (.slice AB nB cB) ∧ Boxed W (w.heap.size + 1 + 1) 3 (.int .i64 (i : Int)) ∧ Coll W (D + 2) AK nK cK (pre.map (·.1)) AB nB cB (pre.map (·.2))
  arg : Boxed W (w.heap.size + 1 + 1 + 1) 23 (.slice A n c)
  low : Below w.heap.size w W
theorem AllJ.later {w W W' : World} {D : Nat} {rec : Loop} {A : Option Addr} {n c : Nat} {pre : List (UInt8 × List UInt8)} {i : Nat} (h : AllJ w D rec A n c pre i W) (hb : Below W.heap.size W W') : AllJ w D rec A n c pre i W' := by
  obtain ⟨h1, h2, ⟨AK, nK, cK, AB, nB, cB, k1, k2, k3, k4⟩, h4, h5⟩ := h
  exact ⟨(hb.block _ (Array.getElem?_eq_some_iff.1 h1).1).trans h1, (hb.block _ (Array.getElem?_eq_some_iff.1 h2).1).trans h2, ⟨AK, nK, cK, AB, nB, cB, boxed_later k1 hb, boxed_later k2 hb, boxed_later k3 hb, k4.later hb⟩, boxed_later h4 hb, h5.trans (hb.mono h5.size)⟩
/-- What lies still while the round's body works: All's boxes, the loop's two blocks, the loop variable (block g). -/
structure RB (w : World) (D g : Nat) (rec : Loop) (vK vB : Value) (i : Nat) (A : Option Addr) (n c : Nat) (k : UInt8) (v2 : Value) (W : World) : Prop where
  boxK : Boxed W w.heap.size 23 vK
  boxB : Boxed W (w.heap.size + 1) 61 vB
  boxI : Boxed W (w.heap.size + 1 + 1) 3 (.int .i64 (i : Int))
  arg : Boxed W (w.heap.size + 1 + 1 + 1) 23 (.slice A n c)
  defer : W.heap[D]? = some (.deferred (some []))
  loop : W.heap[D + 1]? = some (.loop { rec with state := .busy })
  var : W.heap[g]? = some (.cells #[.int .u8 (k.toNat : Int), v2] 97 (0, 0))
  low : Below w.heap.size w W
section
variable {w W W' : World} {D g : Nat} {rec : Loop} {vK vB : Value} {i : Nat} {A : Option Addr} {n c : Nat} {k : UInt8} {v2 : Value}
theorem RB.grown (h : RB w D g rec vK vB i A n c k v2 W) (hD : w.heap.size + 4 ≤ D) {row : Option Nat} (hg : W.grownBy W' row) (hr : ∀ r, row = some r → D + 2 ≤ r ∧ r ≠ g) : RB w D g rec vK vB i A n c k v2 W' := by
  have hb : ∀ {B : Nat} {o : Obj}, B < D + 2 → W.heap[B]? = some o → W'.heap[B]? = some o := fun {B o} hB ho => (hg.block B (Array.getElem?_eq_some_iff.1 ho).1 (fun e => by have := (hr B e.symm).1; omega)).trans ho
  exact ⟨hb (by omega) h.boxK, hb (by omega) h.boxB, hb (by omega) h.boxI, hb (by omega) h.arg, hb (by omega) h.defer, hb (by omega) h.loop,
    (hg.block g (Array.getElem?_eq_some_iff.1 h.var).1 (fun e => (hr g e.symm).2 rfl)).trans h.var, h.low.grown hg h.low.size (fun k e => by have := (hr k e).1; omega)⟩
theorem RB.cell0 (h : RB w D g rec vK vB i A n c k v2 W) : W.cell? ⟨g, 0, none⟩ = some (.int .u8 (k.toNat : Int)) := by simp [World.cell?, h.var]
theorem RB.cell1 (h : RB w D g rec vK vB i A n c k v2 W) : W.cell? ⟨g, 1, none⟩ = some v2 := by simp [World.cell?, h.var]
theorem RB.drew (h : RB w D g rec vK vB i A n c k v2 W) : RB w D g rec vK vB i A n c k v2 W.drew := ⟨h.boxK, h.boxB, h.boxI, h.arg, h.defer, h.loop, h.var, h.low.drew⟩
theorem RB.alloc (h : RB w D g rec vK vB i A n c k v2 W) (hD : w.heap.size + 4 ≤ D) (o : Obj) : RB w D g rec vK vB i A n c k v2 (W.alloc o) := h.grown hD (World.grownBy_alloc W o none) (fun r e => by cases e)
/-- Behind the three stores. -/
theorem RB.close {AK AB : Option Addr} {nK cK nB cB I : Nat} {ks : List UInt8} {bs : List (List UInt8)} (h : RB w D g rec vK vB i A n c k v2 W) (hD : w.heap.size + 4 = D) (r1 : rec.state = .ready) (r2 : rec.pending = none)
    (hc : Coll W (D + 2) AK nK cK ks AB nB cB bs) (pre : List (UInt8 × List UInt8)) (h1 : ks = pre.map (·.1)) (h2 : bs = pre.map (·.2)) :
    ∃ v w', (Instr.endRound (D + 1) none).run Tryd.prog (((W.setCell ⟨w.heap.size, 0, none⟩ (.slice AK nK cK)).setCell ⟨w.heap.size + 1, 0, none⟩ (.slice AB nB cB)).setCell ⟨w.heap.size + 1 + 1, 0, none⟩ (.int .i64 (I : Int))) = .ok v w' ∧
      (Ending.returned v = .returned (.bool true) ∧ AllJ w D rec A n c pre I w') := by
  subst h1 h2
  have a1 := h.boxK.set (.slice AK nK cK)
  have s1 := grownBy_setCell' W w.heap.size (.slice AK nK cK)
  have c1 := hc.under s1 (by omega)
  have q1 := h.boxB.kept s1 (by simp)
  have q2 := h.boxI.kept s1 (by simp; omega)
  have q3 := h.arg.kept s1 (by simp; omega)
  have q4 : (W.setCell ⟨w.heap.size, 0, none⟩ (.slice AK nK cK)).heap[D]? = _ := (s1.block D (Array.getElem?_eq_some_iff.1 h.defer).1 (by simp; omega)).trans h.defer
  have q5 : (W.setCell ⟨w.heap.size, 0, none⟩ (.slice AK nK cK)).heap[D + 1]? = _ := (s1.block (D + 1) (Array.getElem?_eq_some_iff.1 h.loop).1 (by simp; omega)).trans h.loop
  have l1 := h.low.setCell (p := ⟨w.heap.size, 0, none⟩) (Nat.le_refl _) (.slice AK nK cK)
  generalize W.setCell ⟨w.heap.size, 0, none⟩ (.slice AK nK cK) = W1 at *
  have a2 := q1.set (.slice AB nB cB)
  have s2 := grownBy_setCell' W1 (w.heap.size + 1) (.slice AB nB cB)
  have c2 := c1.under s2 (by omega)
  have p1 := a1.kept s2 (by simp)
  have p2 := q2.kept s2 (by simp)
  have p3 := q3.kept s2 (by simp; omega)
  have p4 : (W1.setCell ⟨w.heap.size + 1, 0, none⟩ (.slice AB nB cB)).heap[D]? = _ := (s2.block D (Array.getElem?_eq_some_iff.1 q4).1 (by simp; omega)).trans q4
  have p5 : (W1.setCell ⟨w.heap.size + 1, 0, none⟩ (.slice AB nB cB)).heap[D + 1]? = _ := (s2.block (D + 1) (Array.getElem?_eq_some_iff.1 q5).1 (by simp; omega)).trans q5
  have l2 := l1.setCell (p := ⟨w.heap.size + 1, 0, none⟩) (by simp) (.slice AB nB cB)
  generalize W1.setCell ⟨w.heap.size + 1, 0, none⟩ (.slice AB nB cB) = W2 at *
  have a3 := p2.set (.int .i64 (I : Int))
  have s3 := grownBy_setCell' W2 (w.heap.size + 1 + 1) (.int .i64 (I : Int))
  have c3 := c2.under s3 (by omega)
  have o1 := p1.kept s3 (by simp; omega)
  have o2 := a2.kept s3 (by simp)
  have o3 := p3.kept s3 (by simp)
  have o4 : (W2.setCell ⟨w.heap.size + 1 + 1, 0, none⟩ (.int .i64 (I : Int))).heap[D]? = _ := (s3.block D (Array.getElem?_eq_some_iff.1 p4).1 (by simp; omega)).trans p4
  have o5 : (W2.setCell ⟨w.heap.size + 1 + 1, 0, none⟩ (.int .i64 (I : Int))).heap[D + 1]? = _ := (s3.block (D + 1) (Array.getElem?_eq_some_iff.1 p5).1 (by simp; omega)).trans p5
  have l3 := l2.setCell (p := ⟨w.heap.size + 1 + 1, 0, none⟩) (by simp; omega) (.int .i64 (I : Int))
  generalize W2.setCell ⟨w.heap.size + 1 + 1, 0, none⟩ (.int .i64 (I : Int)) = W3 at *
  have hrun := run_endRound (P := Tryd.prog) none o5
  refine ⟨_, _, hrun, rfl, ?_⟩
  have hrec : ({ ({ rec with state := .busy } : Loop) with state := if (none : Option Code).isNone then .ready else .done, pending := none } : Loop) = rec := by
    obtain ⟨st, pe, f, t, p, a, b, d⟩ := rec
    simp only at r1 r2
    subst r1 r2
    rfl
  rw [hrec]
  have hlt := (Array.getElem?_eq_some_iff.1 o5).1
  have s4 := grownBy_putObj' W3 (D + 1) (.loop rec)
  exact ⟨World.putObj_heap_same hlt, (World.putObj_heap_other (by omega)).trans o4,
    ⟨_, _, _, _, _, _, o1.kept s4 (by simp; omega), o2.kept s4 (by simp; omega), a3.kept s4 (by simp; omega), c3.under s4 (by omega)⟩, o3.kept s4 (by simp; omega), below_put l3 (Nat.le_refl _) (by omega) _⟩
end
theorem wp_bytes {o : Oper} {a : Act} {w : World} {K : Act → World → Prop} {Q : Exit → Act → World → Prop} (d : Option Tmp) (hd : o.dst = d) (s x : Operand)
    (ho : o.op = .call { callee := .builtin .append, args := #[s, x], argTypes := #[23, 23] })
    {base n c : Nat} {A : Option Addr} {l : List UInt8} (hs : a.eval s = .slice A n c) (hown : OwnB w base A n c l) {B m c2 : Nat} {A2 : Option Addr} {l2 : List UInt8} (hx : a.eval x = .slice A2 m c2) (hr : BytesAt w B A2 m l2)
    (hb : n + m ≤ 140737488355328) (hbase : base ≤ w.heap.size)
    (h : ∀ A' c' w', OwnB w' base A' (n + m) c' (l ++ l2) → w.grownBy w' (A.map (·.block)) → (A'.map (·.block) = A.map (·.block) ∨ A'.map (·.block) = some w.heap.size) → K (a.put d (.slice A' (n + m) c')) w') : o.wp Tryd.prog a w K Q := by
  subst hd
  exact wp_append_bytes s x ho hs hown hx hr hb hbase h
theorem wp_list {o : Oper} {a : Act} {w : World} {K : Act → World → Prop} {Q : Exit → Act → World → Prop} (d : Option Tmp) (hd : o.dst = d) (s x : Operand)
    (ho : o.op = .call { callee := .builtin .append, args := #[s, x], argTypes := #[61, 61] })
    {base n c : Nat} {A : Option Addr} {vs : List Value} (hs : a.eval s = .slice A n c) (hown : OwnV w base A n c vs) {b off : Nat} {A2 : Option Addr} {n2 c2 : Nat} (hx : a.eval x = .slice (some ⟨b, off, none⟩) 1 1) (hc : w.cell? ⟨b, off, none⟩ = some (.slice A2 n2 c2))
    (hb : (n + 1) * 24 ≤ 140737488355328) (hbase : base ≤ w.heap.size)
    (h : ∀ A' c' w', OwnV w' base A' (n + 1) c' (vs ++ [.slice A2 n2 c2]) → w.grownBy w' (A.map (·.block)) → (A'.map (·.block) = A.map (·.block) ∨ A'.map (·.block) = some w.heap.size) → K (a.put d (.slice A' (n + 1) c')) w') : o.wp Tryd.prog a w K Q := by
  subst hd
  exact wp_append_list s x ho hs hown hx hc hb hbase h
set_option maxRecDepth 100000 in
set_option maxHeartbeats 4000000 in
theorem frameAll (A : Option Addr) (n c : Nat) (l : List UInt8) (w : World) (hw : 0 < w.heap.size) (ht : Four w) (hr : BytesAt w w.heap.size A n l) (hn : n ≤ 40000000000000) (hc : n ≤ c) :
    Calls Tryd.prog 51 #[.slice A n c] w (AllGot w l) := by
  have HR := Lib.hid hr
  have HT := Lib.hid ht
  clear hr ht
  refine (callsIn_wide (n := 9)).1 ?_
  refine callsIn_of_wp_marks Tryd.func51 rfl trivial ?_ rfl
  simp only [Tryd.ntmps51, List.size_toArray, List.length_cons, List.length_nil, Nat.reduceAdd, Nat.reduceSub, Array.replicate_succ, Array.replicate_zero, List.push_toArray, List.append_toArray, List.nil_append, List.cons_append]
  gi_wp2
  refine ⟨trivial, ?_⟩
  refine (callsIn_wide.2 (each A n c _)).mono ?_
  rintro e w' ⟨rfl, rfl⟩
  have x1 := Boxed.new w 23 (.slice none 0 0)
  have x2 := Boxed.new (w.alloc (.cells #[.slice none 0 0] 23)) 61 (.slice none 0 0)
  have x3 := Boxed.new ((w.alloc (.cells #[.slice none 0 0] 23)).alloc (.cells #[.slice none 0 0] 61)) 3 (.int .i64 0)
  have x4 := Boxed.new (((w.alloc (.cells #[.slice none 0 0] 23)).alloc (.cells #[.slice none 0 0] 61)).alloc (.cells #[.int .i64 0] 3)) 23 (.slice A n c)
  simp only [World.size_alloc] at x1 x2 x3 x4
  have y1 := ((x1.alloc (.cells #[.slice none 0 0] 61)).alloc (.cells #[.int .i64 0] 3)).alloc (.cells #[.slice A n c] 23)
  have y2 := (x2.alloc (.cells #[.int .i64 0] 3)).alloc (.cells #[.slice A n c] 23)
  have y3 := x3.alloc (.cells #[.slice A n c] 23)
  have b0 : Below w.heap.size w ((((w.alloc (.cells #[.slice none 0 0] 23)).alloc (.cells #[.slice none 0 0] 61)).alloc (.cells #[.int .i64 0] 3)).alloc (.cells #[.slice A n c] 23)) :=
    ((((Below.refl _ w).alloc (Nat.le_refl _) _).alloc (by simp) _).alloc (by simp; omega) _).alloc (by simp; omega) _
  have z0 : ((((w.alloc (.cells #[.slice none 0 0] 23)).alloc (.cells #[.slice none 0 0] 61)).alloc (.cells #[.int .i64 0] 3)).alloc (.cells #[.slice A n c] 23)).heap.size = w.heap.size + 4 := by simp
  gi_wp2
  generalize ((((w.alloc (.cells #[.slice none 0 0] 23)).alloc (.cells #[.slice none 0 0] 61)).alloc (.cells #[.int .i64 0] 3)).alloc (.cells #[.slice A n c] 23)) = W0 at *
  clear x1 x2 x3
  refine range_enter rfl (by omega) (gf := 86) (lb := #[.pointer (some ⟨w.heap.size + 1 + 1 + 1, 0, none⟩)]) rfl trivial (enters_of Tryd.func86 (by kernel_rfl) rfl) ?_
  intro rec hfn r1 r2 r3 r4 r5 r6
  have hL : ((W0.alloc (.deferred (some []))).alloc (.loop rec)).heap[W0.heap.size + 1]? = some (.loop rec) := by
    have := World.alloc_heap_new (W0.alloc (.deferred (some []))) (.loop rec)
    rwa [World.size_alloc] at this
  have hD : ((W0.alloc (.deferred (some []))).alloc (.loop rec)).heap[W0.heap.size]? = some (.deferred (some [])) := (Below.heap_alloc _ _ _ (by simp)).trans (World.alloc_heap_new W0 _)
  have b1 : Below w.heap.size w ((W0.alloc (.deferred (some []))).alloc (.loop rec)) := (b0.alloc (by omega) _).alloc (by simp; omega) _
  have bW : Below W0.heap.size W0 ((W0.alloc (.deferred (some []))).alloc (.loop rec)) := ((Below.refl _ W0).alloc (Nat.le_refl _) _).alloc (by simp) _
  refine (each1 8 (W0.heap.size + 1) (w.heap.size + 1 + 1 + 1) A n c l w.heap.size HR.out.1 hn hc (AllJ w W0.heap.size rec A n c) ?hJB ?hJL ?hRound _ ?hStart).mono ?hPost
  case hJB =>
    intro pre i W hJ
    exact ⟨hJ.arg.cell, HR.out.below hJ.low, hJ.low.size, by have := hJ.low.size; omega, HT.out.below hJ.low hw⟩
  case hJL => exact fun pre i W W' h hb => h.later hb
  case hStart => exact ⟨hL, hD, ⟨none, 0, 0, none, 0, 0, boxed_later y1 bW, boxed_later y2 bW, boxed_later y3 bW, Coll.nil _ _⟩, boxed_later x4 bW, b1⟩
  case hPost =>
    rintro e W ⟨⟨v, rfl⟩, hJ⟩
    obtain ⟨W4, hW4⟩ : ∃ W4, W4 = W.putObj (W0.heap.size + 1) (.loop { rec with state := .exhausted }) := ⟨_, rfl⟩
    have hrun := run_endLoop (P := Tryd.prog) hJ.loop (by rw [r1]; simp)
    rw [← hW4, r2] at hrun
    refine ⟨none, W4, hrun, ?_⟩
    clear hrun
    obtain ⟨h1, h2, ⟨AK, nK, cK, AB, nB, cB, k1, k2, k3, k4⟩, h4, h5⟩ := hJ
    have hg := grownBy_putObj' W (W0.heap.size + 1) (.loop { rec with state := .exhausted })
    have hlow := below_put (r := W0.heap.size + 1) h5 (Nat.le_refl _) (by omega) (.loop { rec with state := .exhausted })
    have k1' := k1.kept hg (by simp; omega)
    have k2' := k2.kept hg (by simp; omega)
    have k3' := k3.kept hg (by simp; omega)
    have k4' := k4.under hg (by omega)
    have h2' : (W.putObj (W0.heap.size + 1) (.loop { rec with state := .exhausted })).heap[W0.heap.size]? = some (.deferred (some [])) := (World.putObj_heap_other (by omega)).trans h2
    rw [← hW4] at hlow k1' k2' k3' k4' h2'
    clear hg k1 k2 k3 k4 h1 h2 h4 h5 hW4
    have f1 := k1'.cell
    have f2 := k2'.cell
    have f3 := k3'.cell
    have HK4 := Lib.hid k4'
    have HH2 := Lib.hid h2'
    have HZ := Lib.hid z0
    clear k4' h2' z0 r1 r2 r3 r4 r5 r6 hL hD
    gi_wp2
    refine wpIn_wide.2 ?_
    go_quiet (fail)
    gi_wp2
    refine ⟨by simp, .inl ⟨_, _, rfl, run_takeDeferred (w := W4.drewN nq) HH2.out, ?_⟩⟩
    have hz := HZ.out
    refine ⟨_, results_tmp3' rfl _ _ _, AK, nK, cK, AB, nB, cB, rfl, ?_, ?_⟩
    · have h := HK4.out
      have h' := h.later (below_draws (Below.refl W4.heap.size W4) nq)
      exact (h'.under (grownBy_putObj' _ W0.heap.size _) (by omega)).lower (by omega)
    · exact below_put (below_draws hlow nq) (Nat.le_refl _) (by omega) _
  case hRound =>
    intro pre i W1 W k b A2 n2 c2 I hJ1 hb12 ho hcome
    have hl := (hJ1.later hb12).loop
    have hlt : W0.heap.size + 1 < W.heap.size := (Array.getElem?_eq_some_iff.1 hl).1
    refine round_at hl (by rw [r4]; rfl) hfn ?_
    rw [r5, r6, r3, r4]
    have HL := Lib.hid hl
    have HO := Lib.hid ho
    have HB12 := Lib.hid hb12
    have HJ1 := Lib.hid hJ1
    have HCM := Lib.hid hcome
    have HZ := Lib.hid z0
    have R1 := Lib.hid r1
    have R2 := Lib.hid r2
    clear hl ho hb12 hJ1 hcome z0 r1 r2 r3 r4 r5 r6 hL hD
    gi_wp2
    have hl' : (W.alloc (.cells #[.int .u8 (k.toNat : Int), .slice A2 n2 c2] 97)).heap[W0.heap.size + 1]? = some (.loop rec) := (Below.heap_alloc W _ _ (by omega)).trans HL.out
    obtain ⟨W2, hW2⟩ : ∃ W2, W2 = (W.alloc (.cells #[.int .u8 (k.toNat : Int), .slice A2 n2 c2] 97)).putObj (W0.heap.size + 1) (.loop { rec with state := .busy }) := ⟨_, rfl⟩
    have hbr := run_beginRound (P := Tryd.prog) hl' R1.out
    rw [← hW2] at hbr
    refine ⟨W2, hbr, ?_⟩
    have hg := grownBy_putObj' (W.alloc (.cells #[.int .u8 (k.toNat : Int), .slice A2 n2 c2] 97)) (W0.heap.size + 1) (.loop { rec with state := .busy })
    rw [← hW2] at hg
    have bA := (Below.refl W.heap.size W).alloc (Nat.le_refl _) (.cells #[.int .u8 (k.toNat : Int), .slice A2 n2 c2] 97)
    have b1A := HB12.out.trans (bA.mono HB12.out.size)
    obtain ⟨h1, h2, ⟨AK, nK, cK, AB, nB, cB, k1, k2, k3, k4⟩, h4, h5⟩ := HJ1.out
    have hz := HZ.out
    have h1lt := (Array.getElem?_eq_some_iff.1 h1).1
    have hne := apart_new k4.kinds HO.out (Nat.le_refl _)
    have k1' := (boxed_later k1 b1A).kept hg (by simp; omega)
    have k2' := (boxed_later k2 b1A).kept hg (by simp; omega)
    have k3' := (boxed_later k3 b1A).kept hg (by simp; omega)
    have h4' := (boxed_later h4 b1A).kept hg (by simp; omega)
    have k4' := (k4.later b1A).under hg (by omega)
    have o2 := (HO.out.alloc (.cells #[.int .u8 (k.toNat : Int), .slice A2 n2 c2] 97)).under hg (by omega)
    have hD2 : W2.heap[W0.heap.size]? = some (.deferred (some [])) := by rw [hW2]; exact (World.putObj_heap_other (by omega)).trans ((b1A.block _ (by omega)).trans h2)
    have hL2 : W2.heap[W0.heap.size + 1]? = some (.loop { rec with state := .busy }) := by rw [hW2]; exact World.putObj_heap_same (by simp; omega)
    have low2 : Below w.heap.size w W2 := by rw [hW2]; exact below_put ((h5.trans (b1A.mono h5.size))) (Nat.le_refl _) (by omega) _
    have hN2 : W2.heap[W.heap.size]? = some (.cells #[.int .u8 (k.toNat : Int), .slice A2 n2 c2] 97 (0, 0)) := by rw [hW2]; exact (World.putObj_heap_other (by omega)).trans (World.alloc_heap_new W _)
    have g0 : W2.cell? ⟨W.heap.size, 0, none⟩ = some (.int .u8 (k.toNat : Int)) := by simp [World.cell?, hN2]
    have g1 : W2.cell? ⟨W.heap.size, 1, none⟩ = some (.slice A2 n2 c2) := by simp [World.cell?, hN2]
    have hsz2 : W.heap.size < W2.heap.size := (Array.getElem?_eq_some_iff.1 hN2).1
    have nK8 : 8 * nK ≤ n := by
      have h1 := k4.count.1
      have h2 := HCM.out.count
      rw [HR.out.1, List.length_append, List.length_singleton] at h2
      simp at h1
      omega
    have nB8 : 8 * nB ≤ n := by
      have h1 := k4.count.2
      have h2 := HCM.out.count
      rw [HR.out.1, List.length_append, List.length_singleton] at h2
      simp at h1
      omega
    have hRB : RB w W0.heap.size W.heap.size rec (.slice AK nK cK) (.slice AB nB cB) i A n c k (.slice A2 n2 c2) W2 := ⟨k1', k2', k3', h4', hD2, hL2, hN2, low2⟩
    have hgap : ∀ r, AK.map (·.block) = some r → W0.heap.size + 2 ≤ r ∧ r ≠ W.heap.size := fun r e => by
      rcases k4.kinds.map_form with h | ⟨g, _, h, hb, hs, _⟩
      · rw [h] at e; cases e
      · rw [h] at e; cases e; exact ⟨hb, by have := HB12.out.size; omega⟩
    have hgapB : ∀ r, AB.map (·.block) = some r → W0.heap.size + 2 ≤ r ∧ r ≠ W.heap.size := fun r e => by
      obtain ⟨vs, _, hv, _⟩ := open_coll k4
      rcases hv.form with ⟨rfl, _⟩ | ⟨g, rfl, hb, hs, _⟩
      · cases e
      · simp at e; subst e; exact ⟨hb, by have := HB12.out.size; omega⟩
    have HGK := Lib.hid hgap
    have HGB := Lib.hid hgapB
    have hlow : ∀ r, AK.map (·.block) = some r → r < W.heap.size := fun r e => by
      rcases k4.kinds.map_form with h | ⟨g, _, h, hb, hs, _⟩
      · rw [h] at e; cases e
      · rw [h] at e; cases e; have := HB12.out.size; omega
    have HGL := Lib.hid hlow
    have HNE := Lib.hid hne
    have HC := Lib.hid k4'
    have HO2 := Lib.hid o2
    have HRB := Lib.hid hRB
    clear hbr hl' hg bA b1A h1 h2 k1 k2 k3 k4 h4 h5 hW2 hz k1' k2' k3' h4' k4' o2 hD2 hL2 low2 hN2 g0 g1 hne hgap hgapB hRB hlow
    gi_wp2
    refine region_roundL (RB w W0.heap.size W.heap.size rec (.slice AK nK cK) (.slice AB nB cB) i A n c k (.slice A2 n2 c2)) [10, 11, 12, 13] (by kernel_rfl) (fun ⟨_, _, h⟩ => h) (by kernel_rfl) ?_
    have hRB := HRB.out.drew
    have hC := HC.out.later ((Below.refl W2.heap.size W2).drew)
    have hO := HO2.out.drew
    have hsd : W2.drew.heap.size = W2.heap.size := rfl
    generalize W2.drew = V at *
    refine wpAnyL_move (i := 10) (d := some 24) (v := .int .i64 (I : Int)) rfl rfl (by kernel_rfl) (by kernel_rfl) (by kernel_rfl) (by simp) (by kernel_rfl) (fun _ _ _ h => h) rfl (fun w' => by go_simp) ?_
    simp only [Act.put, List.setIfInBounds_toArray, List.set_cons_zero, List.set_cons_succ]
    refine wpAnyL_take (i := 0) (d := some 14) (v := .slice AK nK cK) rfl rfl (by kernel_rfl) (by kernel_rfl) (by kernel_rfl) (by kernel_rfl) (by kernel_rfl) (fun _ _ _ h => h) rfl (fun w' h => by have := h.boxK.cell; go_simp) hRB ?_
    simp only [Act.put, List.setIfInBounds_toArray, List.set_cons_zero, List.set_cons_succ]
    refine wpAnyL_take (i := 1) (d := some 15) (v := .pointer (some ⟨W.heap.size, 0, none⟩)) rfl rfl (by kernel_rfl) (by kernel_rfl) (by kernel_rfl) (by kernel_rfl) (by kernel_rfl) (fun _ _ _ h => h) rfl (fun w' h => by go_simp) hRB ?_
    simp only [Act.put, List.setIfInBounds_toArray, List.set_cons_zero, List.set_cons_succ]
    refine wpAnyL_take (i := 2) (d := some 16) (v := .int .u8 (k.toNat : Int)) rfl rfl (by kernel_rfl) (by kernel_rfl) (by kernel_rfl) (by kernel_rfl) (by kernel_rfl) (fun _ _ _ h => h) rfl (fun w' h => by have := h.cell0; go_simp) hRB ?_
    simp only [Act.put, List.setIfInBounds_toArray, List.set_cons_zero, List.set_cons_succ]
    refine wpAnyL_take (i := 5) (d := some 19) (v := .slice AB nB cB) rfl rfl (by kernel_rfl) (by kernel_rfl) (by kernel_rfl) (by kernel_rfl) (by kernel_rfl) (fun _ _ _ h => h) rfl (fun w' h => by have := h.boxB.cell; go_simp) hRB ?_
    simp only [Act.put, List.setIfInBounds_toArray, List.set_cons_zero, List.set_cons_succ]
    refine wpAnyL_take (i := 6) (d := some 20) (v := .pointer (some ⟨W.heap.size, 1, none⟩)) rfl rfl (by kernel_rfl) (by kernel_rfl) (by kernel_rfl) (by kernel_rfl) (by kernel_rfl) (fun _ _ _ h => h) rfl (fun w' h => by go_simp) hRB ?_
    simp only [Act.put, List.setIfInBounds_toArray, List.set_cons_zero, List.set_cons_succ]
    refine wpAnyL_take (i := 7) (d := some 21) (v := .slice A2 n2 c2) rfl rfl (by kernel_rfl) (by kernel_rfl) (by kernel_rfl) (by kernel_rfl) (by kernel_rfl) (fun _ _ _ h => h) rfl (fun w' h => by have := h.cell1; go_simp) hRB ?_
    simp only [Act.put, List.setIfInBounds_toArray, List.set_cons_zero, List.set_cons_succ]
    have hD4 : w.heap.size + 4 ≤ W0.heap.size := Nat.le_of_eq HZ.out.symm
    have hbase : W0.heap.size + 2 ≤ V.heap.size := by rw [hsd]; omega
    have hW12 := HB12.out.size
    refine wpAnyL_two (i := 3) (i' := 8) (by kernel_rfl) rfl rfl rfl rfl ?_ ?_
    · refine wp_value (some 17) rfl (v := .slice (some ⟨V.heap.size, 0, none⟩) 1 1) (w1 := V.alloc (.cells #[.int .u8 (k.toNat : Int)] 5)) (by go_simp) ⟨fun _ => hRB.alloc hD4 _, ?_⟩
      simp only [Act.put, List.setIfInBounds_toArray, List.set_cons_zero, List.set_cons_succ]
      have hRa := hRB.alloc hD4 (.cells #[.int .u8 (k.toNat : Int)] 5)
      have hCa := hC.alloc (.cells #[.int .u8 (k.toNat : Int)] 5)
      have hOa := hO.alloc (.cells #[.int .u8 (k.toNat : Int)] 5)
      have hSa := OwnB.lit V (W0.heap.size + 2) V.heap.size 1 #[.int .u8 (k.toNat : Int)] [k] rfl hbase rfl rfl (by unfold maxLen; omega)
      have hza : W0.heap.size + 2 ≤ (V.alloc (.cells #[.int .u8 (k.toNat : Int)] 5)).heap.size := by simp; omega
      refine wpAnyL_two (i := 4) (i' := 8) (by kernel_rfl) rfl rfl rfl rfl ?_ ?_
      · refine wp_bytes (some 18) rfl (.tmp 14) (.tmp 17) rfl rfl hCa.kinds rfl hSa.bytes (by omega) hza ?_
        intro A4 c4 w4 ho4 hg4 hat4
        have hR4 := hRa.grown hD4 hg4 HGK.out
        have hC4 := hCa.kind ho4 hg4 hat4
        have hO4 := hOa.grown hg4 HNE.out
        have hN4 := apart_after hOa HNE.out hat4
        have hz4 : W0.heap.size + 2 ≤ w4.heap.size := Nat.le_trans hza hg4.size
        refine ⟨fun _ => hR4, ?_⟩
        simp only [Act.put, List.setIfInBounds_toArray, List.set_cons_zero, List.set_cons_succ]
        refine wpAnyL_one (i := 8) (by kernel_rfl) rfl rfl ?_
        refine wp_value (some 22) rfl (v := .slice (some ⟨w4.heap.size, 0, none⟩) 1 1) (w1 := w4.alloc (.cells #[.slice A2 n2 c2] 23)) (by go_simp) ⟨fun _ => hR4.alloc hD4 _, ?_⟩
        simp only [Act.put, List.setIfInBounds_toArray, List.set_cons_zero, List.set_cons_succ]
        have hR5 := hR4.alloc hD4 (.cells #[.slice A2 n2 c2] 23)
        obtain ⟨vs, hk5, hv5, he5⟩ := open_coll (hC4.alloc (.cells #[.slice A2 n2 c2] 23))
        have hO5 := hO4.alloc (.cells #[.slice A2 n2 c2] 23)
        refine wpAnyL_one (i := 9) (by kernel_rfl) rfl rfl ?_
        refine wp_list (some 23) rfl (.tmp 19) (.tmp 22) rfl rfl hv5 rfl ((Boxed.new w4 23 (.slice A2 n2 c2)).cell) (by omega) (by simp; omega) ?_
        intro A6 c6 w6 ho6 hg6 hat6
        have hR6 := hR5.grown hD4 hg6 HGB.out
        have hC6 := coll_body hk5 hv5 he5 (hO5.lower (by omega)) hN4 ho6 hg6
        refine ⟨fun _ => hR6, ?_⟩
        simp only [Act.put, List.setIfInBounds_toArray, List.set_cons_zero, List.set_cons_succ]
        refine wpAnyL_one (i := 11) (by kernel_rfl) rfl rfl ?_
        refine wp_skips none rfl (w1 := w6.setCell ⟨w.heap.size, 0, none⟩ (.slice A4 (nK + 1) c4)) (by have e1 := hR6.boxK.cell; have e2 := hR6.boxK.frozen; go_simp) ⟨fun h => absurd (by simp) h, ?_⟩
        simp only [Act.put, List.setIfInBounds_toArray, List.set_cons_zero, List.set_cons_succ]
        refine wpAnyL_one (i := 12) (by kernel_rfl) rfl rfl ?_
        refine wp_skips none rfl (w1 := (w6.setCell ⟨w.heap.size, 0, none⟩ (.slice A4 (nK + 1) c4)).setCell ⟨w.heap.size + 1, 0, none⟩ (.slice A6 (nB + 1) c6)) (by have e1 := hR6.boxB.cell; have e2 := hR6.boxB.frozen; go_simp) ⟨fun h => absurd (by simp) h, ?_⟩
        simp only [Act.put, List.setIfInBounds_toArray, List.set_cons_zero, List.set_cons_succ]
        refine wpAnyL_one (i := 13) (by kernel_rfl) rfl rfl ?_
        refine wp_skips none rfl (w1 := ((w6.setCell ⟨w.heap.size, 0, none⟩ (.slice A4 (nK + 1) c4)).setCell ⟨w.heap.size + 1, 0, none⟩ (.slice A6 (nB + 1) c6)).setCell ⟨w.heap.size + 1 + 1, 0, none⟩ (.int .i64 (I : Int))) (by have e1 := hR6.boxI.cell; have e2 := hR6.boxI.frozen; go_simp) ⟨fun h => absurd (by simp) h, ?_⟩
        refine wpAnyL_done (by kernel_rfl) ?_ _
        exact hR6.close HZ.out.symm R1.out R2.out hC6 (pre ++ [(k, b)]) (by simp) (by simp)
      · refine wp_value (some 22) rfl (v := .slice (some ⟨(V.alloc (.cells #[.int .u8 (k.toNat : Int)] 5)).heap.size, 0, none⟩) 1 1) (w1 := (V.alloc (.cells #[.int .u8 (k.toNat : Int)] 5)).alloc (.cells #[.slice A2 n2 c2] 23)) (by go_simp) ⟨fun _ => hRa.alloc hD4 _, ?_⟩
        simp only [Act.put, List.setIfInBounds_toArray, List.set_cons_zero, List.set_cons_succ]
        have hRb := hRa.alloc hD4 (.cells #[.slice A2 n2 c2] 23)
        have hCb := hCa.alloc (.cells #[.slice A2 n2 c2] 23)
        have hOb := hOa.alloc (.cells #[.slice A2 n2 c2] 23)
        have hSb := hSa.alloc (.cells #[.slice A2 n2 c2] 23)
        have hTb := (Boxed.new (V.alloc (.cells #[.int .u8 (k.toNat : Int)] 5)) 23 (.slice A2 n2 c2)).cell
        have hzb : W0.heap.size + 2 ≤ ((V.alloc (.cells #[.int .u8 (k.toNat : Int)] 5)).alloc (.cells #[.slice A2 n2 c2] 23)).heap.size := by simp; omega
        refine wpAnyL_one (i := 4) (by kernel_rfl) rfl rfl ?_
        refine wp_bytes (some 18) rfl (.tmp 14) (.tmp 17) rfl rfl hCb.kinds rfl hSb.bytes (by omega) hzb ?_
        intro A4 c4 w4 ho4 hg4 hat4
        have hR4 := hRb.grown hD4 hg4 HGK.out
        have hC4 := hCb.kind ho4 hg4 hat4
        have hO4 := hOb.grown hg4 HNE.out
        have hN4 := apart_after hOb HNE.out hat4
        have hT4 := (World.cell?_of_block (hg4.block _ (by simp <;> omega) (fun e => by have := HGL.out _ e.symm; simp at this; omega))).trans hTb
        have hz4 : W0.heap.size + 2 ≤ w4.heap.size := Nat.le_trans hzb hg4.size
        refine ⟨fun _ => hR4, ?_⟩
        simp only [Act.put, List.setIfInBounds_toArray, List.set_cons_zero, List.set_cons_succ]
        obtain ⟨vs, hk5, hv5, he5⟩ := open_coll hC4
        refine wpAnyL_one (i := 9) (by kernel_rfl) rfl rfl ?_
        refine wp_list (some 23) rfl (.tmp 19) (.tmp 22) rfl rfl hv5 rfl hT4 (by omega) hz4 ?_
        intro A6 c6 w6 ho6 hg6 hat6
        have hR6 := hR4.grown hD4 hg6 HGB.out
        have hC6 := coll_body hk5 hv5 he5 (hO4.lower (by omega)) hN4 ho6 hg6
        refine ⟨fun _ => hR6, ?_⟩
        simp only [Act.put, List.setIfInBounds_toArray, List.set_cons_zero, List.set_cons_succ]
        refine wpAnyL_one (i := 11) (by kernel_rfl) rfl rfl ?_
        refine wp_skips none rfl (w1 := w6.setCell ⟨w.heap.size, 0, none⟩ (.slice A4 (nK + 1) c4)) (by have e1 := hR6.boxK.cell; have e2 := hR6.boxK.frozen; go_simp) ⟨fun h => absurd (by simp) h, ?_⟩
        simp only [Act.put, List.setIfInBounds_toArray, List.set_cons_zero, List.set_cons_succ]
        refine wpAnyL_one (i := 12) (by kernel_rfl) rfl rfl ?_
        refine wp_skips none rfl (w1 := (w6.setCell ⟨w.heap.size, 0, none⟩ (.slice A4 (nK + 1) c4)).setCell ⟨w.heap.size + 1, 0, none⟩ (.slice A6 (nB + 1) c6)) (by have e1 := hR6.boxB.cell; have e2 := hR6.boxB.frozen; go_simp) ⟨fun h => absurd (by simp) h, ?_⟩
        simp only [Act.put, List.setIfInBounds_toArray, List.set_cons_zero, List.set_cons_succ]
        refine wpAnyL_one (i := 13) (by kernel_rfl) rfl rfl ?_
        refine wp_skips none rfl (w1 := ((w6.setCell ⟨w.heap.size, 0, none⟩ (.slice A4 (nK + 1) c4)).setCell ⟨w.heap.size + 1, 0, none⟩ (.slice A6 (nB + 1) c6)).setCell ⟨w.heap.size + 1 + 1, 0, none⟩ (.int .i64 (I : Int))) (by have e1 := hR6.boxI.cell; have e2 := hR6.boxI.frozen; go_simp) ⟨fun h => absurd (by simp) h, ?_⟩
        refine wpAnyL_done (by kernel_rfl) ?_ _
        exact hR6.close HZ.out.symm R1.out R2.out hC6 (pre ++ [(k, b)]) (by simp) (by simp)
    · refine wp_value (some 22) rfl (v := .slice (some ⟨V.heap.size, 0, none⟩) 1 1) (w1 := V.alloc (.cells #[.slice A2 n2 c2] 23)) (by go_simp) ⟨fun _ => hRB.alloc hD4 _, ?_⟩
      simp only [Act.put, List.setIfInBounds_toArray, List.set_cons_zero, List.set_cons_succ]
      have hRa := hRB.alloc hD4 (.cells #[.slice A2 n2 c2] 23)
      have hCa := hC.alloc (.cells #[.slice A2 n2 c2] 23)
      have hOa := hO.alloc (.cells #[.slice A2 n2 c2] 23)
      have hTa := (Boxed.new V 23 (.slice A2 n2 c2)).cell
      have hza : W0.heap.size + 2 ≤ (V.alloc (.cells #[.slice A2 n2 c2] 23)).heap.size := by simp; omega
      refine wpAnyL_one (i := 3) (by kernel_rfl) rfl rfl ?_
      refine wp_value (some 17) rfl (v := .slice (some ⟨(V.alloc (.cells #[.slice A2 n2 c2] 23)).heap.size, 0, none⟩) 1 1) (w1 := (V.alloc (.cells #[.slice A2 n2 c2] 23)).alloc (.cells #[.int .u8 (k.toNat : Int)] 5)) (by go_simp) ⟨fun _ => hRa.alloc hD4 _, ?_⟩
      simp only [Act.put, List.setIfInBounds_toArray, List.set_cons_zero, List.set_cons_succ]
      have hRb := hRa.alloc hD4 (.cells #[.int .u8 (k.toNat : Int)] 5)
      have hCb := hCa.alloc (.cells #[.int .u8 (k.toNat : Int)] 5)
      have hOb := hOa.alloc (.cells #[.int .u8 (k.toNat : Int)] 5)
      have hSb := OwnB.lit (V.alloc (.cells #[.slice A2 n2 c2] 23)) (W0.heap.size + 2) _ 1 #[.int .u8 (k.toNat : Int)] [k] rfl hza rfl rfl (by unfold maxLen; omega)
      have hTb := (World.cell?_of_block ((Below.refl _ (V.alloc (.cells #[.slice A2 n2 c2] 23))).alloc (Nat.le_refl _) (.cells #[.int .u8 (k.toNat : Int)] 5) |>.block V.heap.size (by simp))).trans hTa
      have hzb : W0.heap.size + 2 ≤ ((V.alloc (.cells #[.slice A2 n2 c2] 23)).alloc (.cells #[.int .u8 (k.toNat : Int)] 5)).heap.size := by simp; omega
      refine wpAnyL_one (i := 4) (by kernel_rfl) rfl rfl ?_
      refine wp_bytes (some 18) rfl (.tmp 14) (.tmp 17) rfl rfl hCb.kinds rfl hSb.bytes (by omega) hzb ?_
      intro A4 c4 w4 ho4 hg4 hat4
      have hR4 := hRb.grown hD4 hg4 HGK.out
      have hC4 := hCb.kind ho4 hg4 hat4
      have hO4 := hOb.grown hg4 HNE.out
      have hN4 := apart_after hOb HNE.out hat4
      have hT4 := (World.cell?_of_block (hg4.block _ (by simp <;> omega) (fun e => by have := HGL.out _ e.symm; simp at this; omega))).trans hTb
      have hz4 : W0.heap.size + 2 ≤ w4.heap.size := Nat.le_trans hzb hg4.size
      refine ⟨fun _ => hR4, ?_⟩
      simp only [Act.put, List.setIfInBounds_toArray, List.set_cons_zero, List.set_cons_succ]
      obtain ⟨vs, hk5, hv5, he5⟩ := open_coll hC4
      refine wpAnyL_one (i := 9) (by kernel_rfl) rfl rfl ?_
      refine wp_list (some 23) rfl (.tmp 19) (.tmp 22) rfl rfl hv5 rfl hT4 (by omega) hz4 ?_
      intro A6 c6 w6 ho6 hg6 hat6
      have hR6 := hR4.grown hD4 hg6 HGB.out
      have hC6 := coll_body hk5 hv5 he5 (hO4.lower (by omega)) hN4 ho6 hg6
      refine ⟨fun _ => hR6, ?_⟩
      simp only [Act.put, List.setIfInBounds_toArray, List.set_cons_zero, List.set_cons_succ]
      refine wpAnyL_one (i := 11) (by kernel_rfl) rfl rfl ?_
      refine wp_skips none rfl (w1 := w6.setCell ⟨w.heap.size, 0, none⟩ (.slice A4 (nK + 1) c4)) (by have e1 := hR6.boxK.cell; have e2 := hR6.boxK.frozen; go_simp) ⟨fun h => absurd (by simp) h, ?_⟩
      simp only [Act.put, List.setIfInBounds_toArray, List.set_cons_zero, List.set_cons_succ]
      refine wpAnyL_one (i := 12) (by kernel_rfl) rfl rfl ?_
      refine wp_skips none rfl (w1 := (w6.setCell ⟨w.heap.size, 0, none⟩ (.slice A4 (nK + 1) c4)).setCell ⟨w.heap.size + 1, 0, none⟩ (.slice A6 (nB + 1) c6)) (by have e1 := hR6.boxB.cell; have e2 := hR6.boxB.frozen; go_simp) ⟨fun h => absurd (by simp) h, ?_⟩
      simp only [Act.put, List.setIfInBounds_toArray, List.set_cons_zero, List.set_cons_succ]
      refine wpAnyL_one (i := 13) (by kernel_rfl) rfl rfl ?_
      refine wp_skips none rfl (w1 := ((w6.setCell ⟨w.heap.size, 0, none⟩ (.slice A4 (nK + 1) c4)).setCell ⟨w.heap.size + 1, 0, none⟩ (.slice A6 (nB + 1) c6)).setCell ⟨w.heap.size + 1 + 1, 0, none⟩ (.int .i64 (I : Int))) (by have e1 := hR6.boxI.cell; have e2 := hR6.boxI.frozen; go_simp) ⟨fun h => absurd (by simp) h, ?_⟩
      refine wpAnyL_done (by kernel_rfl) ?_ _
      exact hR6.close HZ.out.symm R1.out R2.out hC6 (pre ++ [(k, b)]) (by simp) (by simp)
end Go.Proofs.YtddcfgbembjbhaaDoor
