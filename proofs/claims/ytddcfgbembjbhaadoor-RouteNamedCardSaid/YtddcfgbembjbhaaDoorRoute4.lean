/- Routes: the program's Order: a range over a function: walked. -/
import Derived.Test.YtddcfgbembjbhaaDoorRoute3
import Derived.StillTactics
namespace Go.Proofs.YtddcfgbembjbhaaDoor
open Go.RowKit Go.Shelf
set_option linter.unusedVariables false
set_option linter.unusedSimpArgs false
attribute [local go_sem] Oper.semAt_some
/-! ### Regions in a round, by the laws of a walk outside -/
theorem region_round_list {P : Program} {id : Nat} {l : List Oper} {Q : Exit → Act → World → Prop} {a : Act} {w : World} {lp n : Nat} (hd : noDefer l.toArray = true) (hQ : ¬ LetsOut Q)
    (h : wpList P l.toArray Q l a w) : (Code.region id l.toArray false).wpIn (Fence.wide.inRound lp) n P Q a w :=
  wpIn_region (wpOpsIn_of (noDefer_spec hd) hQ _ _ _ (by rw [List.range_eq_range', ← Array.length_toList, wpOps_eq_wpList l.toArray.toList 0 (by simp)]; simpa using h))
theorem region_round_still {P : Program} {id : Nat} {l : List Oper} {Q : Exit → Act → World → Prop} {a : Act} {w : World} {lp n : Nat} (hd : noDefer l.toArray = true) (hQ : ¬ LetsOut Q) (hm : P.follows .mixedOrders = true) (hB : Region.lexB .any l.toArray = true)
    (h : wpStill P l.toArray w.drew (fun a' => Q .normal a' w.drew) l a) : (Code.region id l.toArray true).wpIn (Fence.wide.inRound lp) n P Q a w :=
  wpIn_region_draw fun t => wpOpsIn_of (noDefer_spec hd) hQ _ _ _ (by
    simp only [Region.schedule, hm, Bool.true_or, if_true]
    refine wpAny_sound l.toArray.size t _ a _ ?_
    simp only [Region.lexB, Bool.and_eq_true] at hB
    refine wpAny_of_still (Q := fun a' => Q .normal a' w.drew) (fun _ h => h) _ _ _ ?_
    have := wpAnyS_lex (md := .any) hB.1 l.toArray.toList 0 (Array.replicate l.toArray.size false) a (by simp) (by simpa using hB.2) (by simpa using h)
    simpa using this)
theorem wpListIn_append_int {F : Fence} {m : Nat} {ops : Array Oper} {rest : List Oper} {o : Oper} {a : Act} {w : World} {Q : Exit → Act → World → Prop} (hgd : o.guard = none) (s x : Operand)
    (ho : o.op = .call { callee := .builtin .append, args := #[s, x], argTypes := #[36, 36] })
    {base n c : Nat} {A : Option Addr} {xs : List Int} (hs : a.eval s = .slice A n c) (hown : OwnI w base A n c xs) {b off : Nat} {y : Int} (hx : a.eval x = .slice (some ⟨b, off, none⟩) 1 1) (hc : w.cell? ⟨b, off, none⟩ = some (.int .i64 y))
    (hb : (n + 1) * 8 ≤ 140737488355328) (hbase : base ≤ w.heap.size)
    (h : ∀ A' c' w', OwnI w' base A' (n + 1) c' (xs ++ [y]) → w.grownBy w' (A.map (·.block)) → wpListIn F m Tryd.prog ops Q rest (a.put o.dst (.slice A' (n + 1) c')) w') : wpListIn F m Tryd.prog ops Q (o :: rest) a w := by
  refine wpListIn_plain hgd fun K hK => ?_
  obtain ⟨A', c', w', hrun, h2, h3⟩ := run_append_int hown hc hb hbase o.type
  unfold Oper.wpIn
  refine ⟨?_, ?_⟩
  · simp [Oper.about, ho, resolve, Target.leads, Sem.run_pure]
  · rw [Oper.semAt_plain F _ _ (by rw [ho]; intro c hc'; cases hc')]
    simp [execOp, ho, resolve, invoke, builtin, hs, hx, hrun, Result.andThen]
    exact hK _ _ (h A' c' w' h2 h3)
theorem keep_block {W W' : World} {row : Option Nat} {B : Nat} {o : Obj} (hg : W.grownBy W' row) (h : W.heap[B]? = some o) (hr : ∀ r, row = some r → r ≠ B) : W'.heap[B]? = some o :=
  (hg.block B (Array.getElem?_eq_some_iff.1 h).1 (fun e => hr B e.symm rfl)).trans h
theorem OwnI.row {w : World} {base n c : Nat} {A : Option Addr} {xs : List Int} (h : OwnI w base A n c xs) : ∀ r, A.map (·.block) = some r → base ≤ r := fun r e => by
  rcases h.form with ⟨rfl, _⟩ | ⟨g, rfl, hb, _⟩
  · cases e
  · cases e; exact hb
/-! ### What lies still through the loop -/
structure Fix (w : World) (g : Nat) (P : PlanV) (A : Option Addr) (n c : Nat) (s : Int) (W : World) : Prop where
  plan : W.heap[g]? = some (.cells P.cells.toArray 39 (0, 0))
  arg : Boxed W (g + 1) 23 (.slice A n c)
  seat : Boxed W (g + 1 + 1) 3 (.int .i64 s)
  defer : W.heap[g + 3]? = some (.deferred (some []))
  low : Below w.heap.size w W
section
variable {w W W' : World} {g : Nat} {P : PlanV} {A : Option Addr} {n c : Nat} {s : Int} {l : List UInt8}
theorem Fix.grown (h : Fix w g P A n c s W) (hw : w.heap.size ≤ g) {row : Option Nat} (hg : W.grownBy W' row) (hr : ∀ r, row = some r → w.heap.size ≤ r ∧ (r < g ∨ g + 3 < r)) : Fix w g P A n c s W' := by
  have hb : ∀ {B : Nat} {o : Obj}, g ≤ B → B ≤ g + 3 → W.heap[B]? = some o → W'.heap[B]? = some o := fun {B o} h1 h2 ho => (hg.block B (Array.getElem?_eq_some_iff.1 ho).1 (fun e => by have := (hr B e.symm).2; omega)).trans ho
  exact ⟨hb (by omega) (by omega) h.plan, hb (by omega) (by omega) h.arg, hb (by omega) (by omega) h.seat, hb (by omega) (by omega) h.defer, h.low.grown hg h.low.size (fun k e => (hr k e).1)⟩
theorem Fix.later (h : Fix w g P A n c s W) (hb : Below W.heap.size W W') : Fix w g P A n c s W' :=
  ⟨(hb.block _ (Array.getElem?_eq_some_iff.1 h.plan).1).trans h.plan, boxed_later h.arg hb, boxed_later h.seat hb, (hb.block _ (Array.getElem?_eq_some_iff.1 h.defer).1).trans h.defer, h.low.trans (hb.mono h.low.size)⟩
theorem Fix.planAt (h : Fix w g P A n c s W) : PlanAt W g P := by
  have c : ∀ i, W.cell? ⟨g, i, none⟩ = P.cells.toArray[i]? := fun i => cell_of_row _ _ _ _ _ _ h.plan
  unfold PlanAt
  simp only [c]
  exact ⟨rfl, rfl, rfl, rfl, rfl, rfl, rfl, rfl, rfl, rfl, rfl, rfl⟩
theorem Fix.seq (h : Fix w g P A n c s W) (hr : BytesAt w w.heap.size A n l) (hw : 0 < w.heap.size) (ht : Four w) : SeqAt W (g + 1 + 1) g (g + 1) w.heap.size P A n c l s :=
  ⟨h.planAt, (Array.getElem?_eq_some_iff.1 h.plan).1, h.arg.cell, h.arg.lt, h.seat.cell, h.seat.lt, hr.below h.low, h.low.size, by have := h.low.size; omega, ht.below h.low hw⟩
end
/-- An endRound gives back the record. -/
theorem end_round {V : World} {L : Nat} {rec : Loop} (h : V.heap[L]? = some (.loop { rec with state := .busy })) (r1 : rec.state = .ready) (r2 : rec.pending = none) :
    (Instr.endRound L none).run Tryd.prog V = .ok (.bool true) (V.putObj L (.loop rec)) := by
  have hrun := run_endRound (P := Tryd.prog) none h
  have hrec : ({ ({ rec with state := .busy } : Loop) with state := if (none : Option Code).isNone then .ready else .done, pending := none } : Loop) = rec := by
    obtain ⟨st, pe, f, t, p, a, b, d⟩ := rec
    simp only at r1 r2
    subst r1 r2
    rfl
  rw [hrec] at hrun
  exact hrun
/-- Between two rounds of Order. -/
structure OrdJ (w : World) (rec : Loop) (P : PlanV) (A : Option Addr) (n c : Nat) (s : Int) (l : List UInt8) (k : Nat) (W : World) : Prop where
  fix : Fix w (w.heap.size + 1 + 1) P A n c s W
  loop : W.heap[w.heap.size + 5 + 1]? = some (.loop rec)
  mine : ∃ A2 n2 c2, Boxed W (w.heap.size + 1) 36 (.slice A2 n2 c2) ∧ OwnI W (w.heap.size + 5 + 2) A2 n2 c2 (upto P.names (P.cand s l) k)
theorem OrdJ.later {w W W' : World} {rec : Loop} {P : PlanV} {A : Option Addr} {n c : Nat} {s : Int} {l : List UInt8} {k : Nat} (h : OrdJ w rec P A n c s l k W) (hb : Below W.heap.size W W') : OrdJ w rec P A n c s l k W' := by
  obtain ⟨h1, h2, A2, n2, c2, h3, h4⟩ := h
  exact ⟨h1.later hb, (hb.block _ (Array.getElem?_eq_some_iff.1 h2).1).trans h2, A2, n2, c2, boxed_later h3 hb, h4.later hb⟩
theorem OrdJ.skip {w W : World} {rec : Loop} {P : PlanV} {A : Option Addr} {n c : Nat} {s : Int} {l : List UInt8} {k : Nat} {x : Int} (h : OrdJ w rec P A n c s l k W) (hx : (P.cand s l)[k]? = some x) (hn : P.names x = false) : OrdJ w rec P A n c s l (k + 1) W := by
  obtain ⟨h1, h2, A2, n2, c2, h3, h4⟩ := h
  refine ⟨h1, h2, A2, n2, c2, h3, ?_⟩
  rw [upto_succ _ _ _ _ hx]
  unfold once
  rw [hn]
  exact h4
theorem OwnI.under {w w' : World} {base n c r : Nat} {A : Option Addr} {xs : List Int} (h : OwnI w base A n c xs) (hg : w.grownBy w' (some r)) (hr : r < base) : OwnI w' base A n c xs := h.grown hg (by
  rcases h.form with ⟨rfl, _⟩ | ⟨g, rfl, hb, _⟩
  · exact .inl rfl
  · exact .inr fun e => by simp at e; omega)
theorem OwnI.lower {w : World} {base base' n c : Nat} {A : Option Addr} {xs : List Int} (h : OwnI w base' A n c xs) (hb : base ≤ base') : OwnI w base A n c xs := by
  refine ⟨h.1, ?_⟩
  rcases h.2 with h | ⟨g, cap, cur, e, hg, h⟩
  · exact .inl h
  · exact .inr ⟨g, cap, cur, e, by omega, h⟩
theorem OwnI.cap {w : World} {base n c : Nat} {A : Option Addr} {xs : List Int} (h : OwnI w base A n c xs) : n ≤ c := by
  rcases h.form with ⟨_, rfl, rfl, _⟩ | ⟨_, _, _, _, h, _⟩
  · exact Nat.le_refl _
  · exact h
theorem seq_facts (W1 : World) (P : PlanV) (A : Option Addr) (n c : Nat) (s : Int) : (seqWorld W1 P A n c s).heap[W1.heap.size]? = some (.cells P.cells.toArray 39 (0, 0)) ∧ Boxed (seqWorld W1 P A n c s) (W1.heap.size + 1) 23 (.slice A n c) ∧
    Boxed (seqWorld W1 P A n c s) (W1.heap.size + 1 + 1) 3 (.int .i64 s) ∧ Below W1.heap.size W1 (seqWorld W1 P A n c s) ∧ (seqWorld W1 P A n c s).heap.size = W1.heap.size + 3 := by
  unfold seqWorld
  have x2 := Boxed.new (W1.alloc (.cells P.cells.toArray 39)) 23 (.slice A n c)
  have x3 := Boxed.new ((W1.alloc (.cells P.cells.toArray 39)).alloc (.cells #[.slice A n c] 23)) 3 (.int .i64 s)
  simp only [World.size_alloc] at x2 x3
  refine ⟨?_, x2.alloc _, x3, (((Below.refl _ W1).alloc (Nat.le_refl _) _).alloc (by simp) _).alloc (by simp; omega) _, by simp⟩
  exact (Below.heap_alloc _ _ _ (by simp; omega)).trans ((Below.heap_alloc _ _ _ (by simp)).trans (World.alloc_heap_new W1 _))
def Ordered (w : World) (xs : List Int) (e : Ending) (w' : World) : Prop := ∃ A n c, e = .returned (.slice A n c) ∧ OwnI w' w.heap.size A n c xs ∧ Below w.heap.size w w'
set_option maxRecDepth 100000 in
set_option maxHeartbeats 4000000 in
theorem routeOrder (P : PlanV) (A : Option Addr) (n c : Nat) (l : List UInt8) (s : Int) (w : World) (hw : 0 < w.heap.size) (ht : Four w) (hr : BytesAt w w.heap.size A n l) (hn : n ≤ 140737488351232) :
    Calls Tryd.prog 45 #[P.val, .slice A n c, .int .i64 s] w (Ordered w (orderL P.names (P.cand s l))) := by
  have HR := Lib.hid hr
  have HT := Lib.hid ht
  clear hr ht
  refine (callsIn_wide (n := 9)).1 ?_
  refine callsIn_of_wp_marks Tryd.func45 rfl trivial ?_ rfl
  simp only [Tryd.ntmps45, List.size_toArray, List.length_cons, List.length_nil, Nat.reduceAdd, Nat.reduceSub, Array.replicate_succ, Array.replicate_zero, List.push_toArray, List.append_toArray, List.nil_append, List.cons_append, PlanV.val]
  obtain ⟨p0, p1, p2, p3, p4, p5, p6, p7, p8, p9, pA, pn, pc, cA, cn, cc⟩ := P
  simp only [PlanV.cells]
  gi_wp2
  refine ⟨trivial, ?_⟩
  refine (callsIn_wide.2 (orderSeq ⟨p0, p1, p2, p3, p4, p5, p6, p7, p8, p9, pA, pn, pc, cA, cn, cc⟩ A n c s _)).mono ?_
  rintro e w' ⟨rfl, rfl⟩
  obtain ⟨y2, y3, y4, bW1, z1⟩ := seq_facts ((w.alloc (.cells #[.int .i64 p0, .int .i64 p1, .int .i64 p2, .int .i64 p3, .int .i64 p4, .int .i64 p5, .int .i64 p6, .int .i64 p7, .int .u64 p8, .int .u64 p9, .slice pA pn pc, .slice cA cn cc] 39)).alloc (.cells #[.slice none 0 0] 36)) ⟨p0, p1, p2, p3, p4, p5, p6, p7, p8, p9, pA, pn, pc, cA, cn, cc⟩ A n c s
  have y1 := Boxed.new (w.alloc (.cells #[.int .i64 p0, .int .i64 p1, .int .i64 p2, .int .i64 p3, .int .i64 p4, .int .i64 p5, .int .i64 p6, .int .i64 p7, .int .u64 p8, .int .u64 p9, .slice pA pn pc, .slice cA cn cc] 39)) 36 (.slice none 0 0)
  have bw1 : Below w.heap.size w ((w.alloc (.cells #[.int .i64 p0, .int .i64 p1, .int .i64 p2, .int .i64 p3, .int .i64 p4, .int .i64 p5, .int .i64 p6, .int .i64 p7, .int .u64 p8, .int .u64 p9, .slice pA pn pc, .slice cA cn cc] 39)).alloc (.cells #[.slice none 0 0] 36)) := ((Below.refl _ w).alloc (Nat.le_refl _) _).alloc (by simp) _
  generalize (⟨p0, p1, p2, p3, p4, p5, p6, p7, p8, p9, pA, pn, pc, cA, cn, cc⟩ : PlanV) = P at *
  have y1' := boxed_later y1 bW1
  have b0 := bw1.trans (bW1.mono bw1.size)
  simp only [World.size_alloc] at y1' y2 y3 y4 z1
  gi_wp2
  generalize seqWorld ((w.alloc (.cells #[.int .i64 p0, .int .i64 p1, .int .i64 p2, .int .i64 p3, .int .i64 p4, .int .i64 p5, .int .i64 p6, .int .i64 p7, .int .u64 p8, .int .u64 p9, .slice pA pn pc, .slice cA cn cc] 39)).alloc (.cells #[.slice none 0 0] 36)) P A n c s = W0 at *
  clear y1 bw1 bW1
  have z0 : W0.heap.size = w.heap.size + 5 := by rw [z1]
  clear z1
  refine range_enter rfl (by omega) (gf := 83) (lb := #[.pointer (some ⟨w.heap.size + 1 + 1 + 1 + 1, 0, none⟩), .pointer (some ⟨w.heap.size + 1 + 1, 0, none⟩), .pointer (some ⟨w.heap.size + 1 + 1 + 1, 0, none⟩)]) rfl trivial (enters_of Tryd.func83 (by kernel_rfl) rfl) ?_
  intro rec hfn r1 r2 r3 r4 r5 r6
  have hL : ((W0.alloc (.deferred (some []))).alloc (.loop rec)).heap[W0.heap.size + 1]? = some (.loop rec) := by
    have := World.alloc_heap_new (W0.alloc (.deferred (some []))) (.loop rec)
    rwa [World.size_alloc] at this
  have hD : ((W0.alloc (.deferred (some []))).alloc (.loop rec)).heap[W0.heap.size]? = some (.deferred (some [])) := (Below.heap_alloc _ _ _ (by simp)).trans (World.alloc_heap_new W0 _)
  have b1 : Below w.heap.size w ((W0.alloc (.deferred (some []))).alloc (.loop rec)) := (b0.alloc (by omega) _).alloc (by simp; omega) _
  have bW : Below W0.heap.size W0 ((W0.alloc (.deferred (some []))).alloc (.loop rec)) := ((Below.refl _ W0).alloc (Nat.le_refl _) _).alloc (by simp) _
  have hplan := (bW.block _ (Array.getElem?_eq_some_iff.1 y2).1).trans y2
  rw [z0] at hL hD ⊢
  refine (order1 8 (w.heap.size + 5 + 1) w.heap.size (w.heap.size + 1 + 1 + 1 + 1) (w.heap.size + 1 + 1) (w.heap.size + 1 + 1 + 1) P A n c l s hn (OrdJ w rec P A n c s l) (fun _ => False) ?hJB ?hJL ?hSkip ?hRound _ ?hStart).mono ?hPost
  case hJB => exact fun k W hJ => hJ.fix.seq HR.out hw HT.out
  case hJL => exact fun k W W' h hb => h.later hb
  case hSkip => exact fun k x W hx hnm h => h.skip hx hnm
  case hStart => exact ⟨⟨hplan, boxed_later y3 bW, boxed_later y4 bW, hD, b1⟩, hL, none, 0, 0, boxed_later y1' bW, OwnI.nil _ _⟩
  case hPost =>
    rintro e W ⟨⟨v, rfl⟩, hJ⟩
    obtain hJ | hJ := hJ
    rotate_left
    · exact hJ.elim
    obtain ⟨W4, hW4⟩ : ∃ W4, W4 = W.putObj (w.heap.size + 5 + 1) (.loop { rec with state := .exhausted }) := ⟨_, rfl⟩
    have hrun := run_endLoop (P := Tryd.prog) hJ.loop (by rw [r1]; simp)
    rw [← hW4, r2] at hrun
    refine ⟨none, W4, hrun, ?_⟩
    clear hrun
    obtain ⟨hfix, hloop, A2, n2, c2, k1, k2⟩ := hJ
    rw [upto_all _ _ _ (by simp [PlanV.cand])] at k2
    have hg := grownBy_putObj' W (w.heap.size + 5 + 1) (.loop { rec with state := .exhausted })
    rw [← hW4] at hg
    have fix4 := hfix.grown (by omega) hg (fun r e => by cases e; constructor <;> omega)
    have k1' := k1.kept hg (by simp)
    have k2' := k2.under hg (by omega)
    have f1 := k1'.cell
    have FIX4 := Lib.hid fix4
    have K2 := Lib.hid k2'
    clear hfix hloop k1 k2 hg hW4 fix4 k1' k2' z0 r1 r2 r3 r4 r5 r6 hL hD hplan y1' y2 y3 y4 b0 b1 bW
    gi_wp2
    refine ⟨by simp, .inl ⟨_, _, rfl, run_takeDeferred (w := W4) FIX4.out.defer, ?_⟩⟩
    refine ⟨_, results_tmp rfl _ _ _, A2, n2, c2, rfl, ?_, ?_⟩
    · exact (K2.out.under (grownBy_putObj' _ (w.heap.size + 5) _) (by omega)).lower (by omega)
    · exact below_put FIX4.out.low (Nat.le_refl _) (by omega) _
  case hRound =>
    intro k x W hx hnm hJ1
    refine round_at hJ1.loop (by rw [r4]; rfl) hfn ?_
    rw [r5, r6, r3, r4]
    have HJ1 := Lib.hid hJ1
    have HX := Lib.hid hx
    have HN := Lib.hid hnm
    have R1 := Lib.hid r1
    have R2 := Lib.hid r2
    have HZ := Lib.hid z0
    clear hJ1 hx hnm z0 r1 r2 r3 r4 r5 r6 hL hD hplan y1' y2 y3 y4 b0 b1 bW
    gi_wp2
    obtain ⟨hfix, hloop, A2, n2, c2, k1, k2⟩ := HJ1.out
    obtain ⟨W2, hW2⟩ : ∃ W2, W2 = W.putObj (w.heap.size + 5 + 1) (.loop { rec with state := .busy }) := ⟨_, rfl⟩
    have hbr := run_beginRound (P := Tryd.prog) hloop R1.out
    rw [← hW2] at hbr
    refine ⟨W2, hbr, ?_⟩
    have hlt6 := (Array.getElem?_eq_some_iff.1 hloop).1
    have hg := grownBy_putObj' W (w.heap.size + 5 + 1) (.loop { rec with state := .busy })
    have hbusy : W2.heap[w.heap.size + 5 + 1]? = some (.loop { rec with state := .busy }) := by rw [hW2]; exact World.putObj_heap_same (by omega)
    rw [← hW2] at hg
    have fix2 := hfix.grown (by omega) hg (fun r e => by cases e; constructor <;> omega)
    have k1' := k1.kept hg (by simp)
    have k2' := k2.under hg (by omega)
    have hn2 : n2 ≤ 10 := by
      have h1 := k2.len
      have h2 := upto_len P.names (P.cand s l) k
      have h3 : k < 5 := by
        have := (List.getElem?_eq_some_iff.1 HX.out).1
        simpa [PlanV.cand] using this
      omega
    have hsz2 := hg.size
    clear hfix hloop k1 k2 hbr hg hW2
    have FIX2 := Lib.hid fix2
    have BUSY := Lib.hid hbusy
    have K1 := Lib.hid k1'
    have K2 := Lib.hid k2'
    have f1 := k1'.cell
    have z1 := k1'.frozen
    clear fix2 hbusy k1' k2'
    gi_wp2
    refine ⟨trivial, ?_⟩
    refine (CallsIn.inRound _ (callsIn_wide.2 (containsInt A2 n2 c2 _ x W2.heap.size W2 K2.out.ints (by omega)))).mono ?_
    rintro e w' ⟨rfl, rfl⟩
    by_cases hin : (upto P.names (P.cand s l) k).contains x = true
    · rw [hin]
      have HI := Lib.hid hin
      clear hin
      gi_wp2
      refine ⟨_, _, end_round BUSY.out R1.out R2.out, .inl ⟨rfl, ?_⟩⟩
      have hg5 := grownBy_putObj' w' (w.heap.size + 5 + 1) (.loop rec)
      refine ⟨FIX2.out.grown (by omega) hg5 (fun r e => by cases e; constructor <;> omega), World.putObj_heap_same (by omega), A2, n2, c2, K1.out.kept hg5 (by simp), ?_⟩
      have e : upto P.names (P.cand s l) (k + 1) = upto P.names (P.cand s l) k := by rw [upto_succ _ _ _ _ HX.out]; unfold once; rw [HI.out]; simp
      rw [e]
      exact K2.out.under hg5 (by omega)
    · have hin' : (upto P.names (P.cand s l) k).contains x = false := by simpa using hin
      rw [hin']
      have HI := Lib.hid hin'
      clear hin hin'
      have hwz : w.heap.size + 5 + 2 ≤ w'.heap.size := by omega
      have HR7 := Lib.hid K2.out.row
      gi_wp2_with (gi_at_builtin; refine wpListIn_append_int rfl (.tmp 18) (.tmp 20) rfl rfl (K2.out.alloc _) rfl (Boxed.new w' 3 _).cell (by omega) (by simp; omega) ?_; intro A4 c4 w4 ho4 hg4; have HO4 := Lib.hid ho4; have HG4 := Lib.hid hg4; have k4 := (K1.out.alloc (.cells #[.int .i64 x] 3)).kept hg4 (fun e => by have := HR7.out _ e.symm; omega); have K4 := Lib.hid k4; have f4 := k4.cell; have z4 := k4.frozen; clear ho4 hg4 k4)
      have g1 := World.grownBy_alloc w' (.cells #[.int .i64 x] 3) none
      have hr7 : ∀ r, A2.map (·.block) = some r → w.heap.size ≤ r ∧ (r < w.heap.size + 1 + 1 ∨ w.heap.size + 1 + 1 + 3 < r) := fun r e => by have := HR7.out r e; constructor <;> omega
      have s5 := grownBy_setCell' w4 (w.heap.size + 1) (.slice A4 (n2 + 1) c4)
      have fixV := ((FIX2.out.grown (by omega) g1 (fun r e => by cases e)).grown (by omega) HG4.out hr7).grown (by omega) s5 (fun r e => by cases e; constructor <;> omega)
      have busyV := keep_block s5 (keep_block HG4.out (keep_block g1 BUSY.out (fun r e => by cases e)) (fun r e => by have := HR7.out r e; omega)) (fun r e => by cases e; omega)
      have boxV := K4.out.set (.slice A4 (n2 + 1) c4)
      have ownV := HO4.out.under s5 (by omega)
      generalize w4.setCell { block := w.heap.size + 1, off := 0 } (Value.slice A4 (n2 + 1) c4) = V at *
      refine ⟨_, _, end_round busyV R1.out R2.out, .inl ⟨rfl, ?_⟩⟩
      have hg5 := grownBy_putObj' V (w.heap.size + 5 + 1) (.loop rec)
      refine ⟨fixV.grown (by omega) hg5 (fun r e => by cases e; constructor <;> omega), World.putObj_heap_same (Array.getElem?_eq_some_iff.1 busyV).1, A4, n2 + 1, c4, boxV.kept hg5 (by simp), ?_⟩
      have e : upto P.names (P.cand s l) (k + 1) = upto P.names (P.cand s l) k ++ [x] := by rw [upto_succ _ _ _ _ HX.out]; unfold once; rw [HI.out, HN.out]; simp
      rw [e]
      exact ownV.under hg5 (by omega)
end Go.Proofs.YtddcfgbembjbhaaDoor
