/- A region that draws, in a round: what is loaded may be taken ahead, where the stores into it wait for the loads: no program. -/
import Derived.Test.YtddcfgbembjbhaaDoorAll
import Derived.Deep.RegionHeld3
namespace Go.Proofs.YtddcfgbembjbhaaDoor
open Go.RowKit Go.Shelf
set_option linter.unusedVariables false

/-- Whatever comes up next; behind it S holds, but behind the operations in 'st' (the last stores). -/
def wpAnyL (P : Program) (md : Region.Mode) (ops : Array Oper) (Q : Exit → Act → World → Prop) (S : World → Prop) (st : List Nat) : Nat → Array Bool → Act → World → Prop
  | 0, listed, a, w => Region.ready md ops listed = [] ∧ Q .normal a w
  | fuel + 1, listed, a, w =>
    (Region.ready md ops listed = [] → Q .normal a w) ∧
    ∀ i ∈ Region.ready md ops listed, wpOp P ops Q i (fun a' w' => (i ∉ st → S w') ∧ wpAnyL P md ops Q S st fuel (listed.setIfInBounds i true) a' w') a w
section
variable {P : Program} {ops : Array Oper} {Q : Exit → Act → World → Prop} {md : Region.Mode} {S : World → Prop} {st : List Nat}
theorem wpAny_of_L : ∀ (fuel : Nat) (listed : Array Bool) (a : Act) (w : World), wpAnyL P md ops Q S st fuel listed a w → wpAny P md ops Q fuel listed a w
  | 0, _, _, _, h => h
  | fuel + 1, _, _, _, h => ⟨h.1, fun i hi => wpOp_mono (fun a' w' h' => wpAny_of_L fuel _ a' w' h'.2) (h.2 i hi)⟩
/-- What was listed had what it waits for listed. -/
def Closed (md : Region.Mode) (ops : Array Oper) (listed : Array Bool) : Prop :=
  ∀ (j : Nat) (o : Oper), ops[j]? = some o → listed.getD j false = true → ∀ e ∈ o.after, Region.binds md e = true → listed.getD e.on false = true
def closedB (md : Region.Mode) (ops : Array Oper) (listed : Array Bool) : Bool :=
  (List.range ops.size).all fun j => match ops[j]? with
    | some o => !listed.getD j false || o.after.all fun e => !Region.binds md e || listed.getD e.on false
    | none => true
theorem closed_of {listed : Array Bool} (h : closedB md ops listed = true) : Closed md ops listed := by
  intro j o ho hj e he hb
  have hlt : j < ops.size := (Array.getElem?_eq_some_iff.1 ho).1
  have h1 := (List.all_eq_true.1 h) j (List.mem_range.2 hlt)
  simp only [ho, hj, Bool.not_true, Bool.false_or] at h1
  have h2 := (Array.all_eq_true_iff_forall_mem.1 h1) e he
  rw [hb] at h2
  simpa using h2
theorem getD_listed {listed : Array Bool} {i : Nat} (h : (listed[i]?).getD false = true) : listed.getD i false = true := by simpa using h
theorem ready_edges {listed : Array Bool} {j : Nat} (hj : j ∈ Region.ready md ops listed) (o : Oper) (ho : ops[j]? = some o) : ∀ e ∈ o.after, Region.binds md e = true → listed.getD e.on false = true := by
  obtain ⟨_, o', ho', hall⟩ := mem_ready.1 hj
  rw [ho] at ho'
  cases ho'
  exact hall
theorem Closed.ready {listed : Array Bool} {j : Nat} (h : Closed md ops listed) (hj : j ∈ Region.ready md ops listed) : Closed md ops (listed.setIfInBounds j true) := by
  have mono : ∀ i, listed.getD i false = true → (listed.setIfInBounds j true).getD i false = true := fun i hi => by
    by_cases e : j = i
    · subst e
      have hlt : j < listed.size := by
        rcases Nat.lt_or_ge j listed.size with h' | h'
        · exact h'
        · simp [Array.getElem?_eq_none h'] at hi
      simp [hlt]
    · simp only [Array.getD_eq_getD_getElem?] at hi ⊢
      rwa [Array.getElem?_setIfInBounds_ne e]
  intro i o ho hi e he hb
  by_cases e' : j = i
  · subst e'
    exact mono _ (ready_edges hj o ho e he hb)
  · refine mono _ (h i o ho ?_ e he hb)
    simp only [Array.getD_eq_getD_getElem?] at hi ⊢
    rwa [Array.getElem?_setIfInBounds_ne e'] at hi
/-- Number j waits for number i. -/
def waits (md : Region.Mode) (ops : Array Oper) (i : Nat) : Nat → Nat → Bool
  | 0, _ => false
  | f + 1, j => match ops[j]? with
    | some o => o.after.any fun e => Region.binds md e && (e.on == i || waits md ops i f e.on)
    | none => false
theorem waits_listed {listed : Array Bool} {i : Nat} (hc : Closed md ops listed) : ∀ (f j : Nat), waits md ops i f j = true → (∀ o, ops[j]? = some o → ∀ e ∈ o.after, Region.binds md e = true → listed.getD e.on false = true) → listed.getD i false = true
  | 0, _, h, _ => by cases h
  | f + 1, j, h, hall => by
    unfold waits at h
    cases ho : ops[j]? with
    | none => rw [ho] at h; cases h
    | some o =>
      rw [ho] at h
      obtain ⟨e, he, hb⟩ := Array.any_eq_true'.1 (show (o.after.any fun e => Region.binds md e && (e.on == i || waits md ops i f e.on)) = true from h)
      rw [Bool.and_eq_true, Bool.or_eq_true, beq_iff_eq] at hb
      have hl := hall o ho e he hb.1
      rcases hb.2 with h1 | h1
      · rw [← h1]; exact hl
      · exact waits_listed hc f e.on h1 (fun o' ho' => hc e.on o' ho' hl)
/-- The stores that are not listed wait for number i. -/
def waitsFor (md : Region.Mode) (ops : Array Oper) (L0 : Array Bool) (st : List Nat) (i : Nat) : Bool := st.all fun j => L0.getD j false || waits md ops i ops.size j
theorem not_store {L0 listed : Array Bool} {i j : Nat} (hw : waitsFor md ops L0 st i = true) (hL : ∀ k, L0.getD k false = true → listed.getD k false = true) (hc : Closed md ops listed) (hi : listed.getD i true = false) (hj : j ∈ Region.ready md ops listed) : j ∉ st := by
  intro hs
  have h := (List.all_eq_true.1 hw) j hs
  rw [Bool.or_eq_true] at h
  rcases h with h | h
  · have h1 := hL j h
    have h2 := (mem_ready.1 hj).1
    rcases Nat.lt_or_ge j listed.size with h' | h'
    · simp [h'] at h1 h2; rw [h2] at h1; cases h1
    · simp [Array.getElem?_eq_none h'] at h1
  have h1 := waits_listed hc _ _ h (ready_edges hj)
  rcases Nat.lt_or_ge i listed.size with h' | h'
  · simp [h'] at hi h1; rw [hi] at h1; cases h1
  · simp [Array.getElem?_eq_none h'] at h1
theorem listed_mono {listed : Array Bool} (j i : Nat) (hi : listed.getD i false = true) : (listed.setIfInBounds j true).getD i false = true := by
  by_cases e : j = i
  · subst e
    have hlt : j < listed.size := by
      rcases Nat.lt_or_ge j listed.size with h' | h'
      · exact h'
      · simp [Array.getElem?_eq_none h'] at hi
    simp [hlt]
  · simp only [Array.getD_eq_getD_getElem?] at hi ⊢
    rwa [Array.getElem?_setIfInBounds_ne e]
/-- A load that S tells, and for which the stores wait, may be taken first. -/
theorem wpAnyL_first {i : Nat} {oi : Oper} {v : Value} (L0 : Array Bool) (S' : World → Prop) (hi : ops[i]? = some oi) (hsel : Region.noSelect ops = true) (hQ : ∀ c a w, Q (.panic c) (a.put oi.dst v) w → Q (.panic c) a w)
    (hwt : ∀ (listed : Array Bool) (j : Nat) (w' : World), Closed md ops listed → (∀ k, L0.getD k false = true → listed.getD k false = true) → listed.getD i true = false → j ∈ Region.ready md ops listed → (j ∉ st → S w') → S' w') (hSi : i ∈ st ∨ ∀ w', S' w' → S w') :
    ∀ (fuel : Nat) (listed : Array Bool) (a : Act) (w : World), Closed md ops listed → (∀ k, L0.getD k false = true → listed.getD k false = true) →
      (∀ j oj, ops[j]? = some oj → j ≠ i → listed.getD j true = false → (∀ e ∈ oj.after, Region.binds md e = true → e.on ≠ i) → oi.apart ops oj = true) →
      i ∈ Region.ready md ops listed → YieldsIf P ops S' oi v a → S' w →
      wpAnyL P md ops Q S st fuel (listed.setIfInBounds i true) (a.put oi.dst v) w → wpAnyL P md ops Q S st (fuel + 1) listed a w
  | fuel, listed, a, w, hcl, hL0, hfree, hr, hy, hS', H => by
    refine ⟨fun h => (by rw [h] at hr; cases hr), fun j hj => ?_⟩
    by_cases hji : j = i
    · subst hji
      exact hy.wpOp hi hS' ⟨fun hn => hSi.resolve_left hn w hS', H⟩
    cases fuel with
    | zero =>
      have := ready_mono hj hji
      rw [H.1] at this
      cases this
    | succ fuel =>
      have hui := (mem_ready.1 hr).1
      obtain ⟨hjun, oj, hoj, hall⟩ := mem_ready.1 hj
      have hnot : ∀ e ∈ oj.after, Region.binds md e = true → e.on ≠ i := fun e he hb heq => by
        have h1 := hall e he hb
        rw [heq] at h1
        rcases Nat.lt_or_ge i listed.size with h' | h'
        · simp [h'] at hui h1; rw [hui] at h1; cases h1
        · simp [Array.getElem?_eq_none h'] at h1
      have h2 := wpOp_putIf hoj (hfree j oj hoj hji hjun hnot) (fun cs b => Region.noSelect_spec hsel i oi cs b hi) (fun cs b => Region.noSelect_spec hsel j oj cs b hoj) hQ hy (H.2 j (ready_mono hj hji))
      refine wpOp_mono (fun a' w' h3 => ⟨h3.2.1, ?_⟩) h2
      refine wpAnyL_first L0 S' hi hsel hQ hwt hSi fuel _ a' w' (hcl.ready hj) (fun k hk => listed_mono j k (hL0 k hk)) (fun k ok hk hki hun hno => ?_) (ready_mono hr (Ne.symm hji)) h3.1 (hwt _ j w' hcl hL0 hui hj h3.2.1) ?_
      · refine hfree k ok hk hki ?_ hno
        by_cases hjk : j = k
        · subst hjk; exact hjun
        · rwa [getD_set_ne true hjk] at hun
      · rw [Array.setIfInBounds_comm _ _ hji]
        exact h3.2.2
theorem wpAnyL_take {i : Nat} {oi : Oper} {v : Value} {d : Option Tmp} (hd : oi.dst = d) {fuel : Nat} {listed : Array Bool} {a : Act} {w : World} (hi : ops[i]? = some oi)
    (hs : Region.noSelect ops = true) (hf : Region.free md ops listed i = true) (hr : (Region.ready md ops listed).contains i = true) (hwt : waitsFor md ops listed st i = true) (hcl : closedB md ops listed = true)
    (hQ : ∀ c a w, Q (.panic c) (a.put d v) w → Q (.panic c) a w) (hg : oi.guard = none) (hy : ∀ w, S w → (execOp a.eval oi).run P w = .ok (.value v) w) (hS : S w)
    (h : wpAnyL P md ops Q S st fuel (listed.setIfInBounds i true) (a.put d v) w) : wpAnyL P md ops Q S st (fuel + 1) listed a w := by
  subst hd
  exact wpAnyL_first listed S hi hs hQ (fun _ j w' hc hL hu hj h => h (not_store hwt hL hc hu hj)) (.inr fun _ h => h) fuel listed a w (closed_of hcl) (fun _ h => h) (Region.free_spec hi hf) (by simpa using hr) (.inl ⟨by unfold Region.wanted; rw [hg], hy⟩) hS h
/-- What yields in whatever world may be taken first. -/
theorem wpAnyL_move {i : Nat} {oi : Oper} {v : Value} {d : Option Tmp} (hd : oi.dst = d) {fuel : Nat} {listed : Array Bool} {a : Act} {w : World} (hi : ops[i]? = some oi)
    (hs : Region.noSelect ops = true) (hf : Region.free md ops listed i = true) (hr : (Region.ready md ops listed).contains i = true) (hst : i ∈ st) (hcl : closedB md ops listed = true)
    (hQ : ∀ c a w, Q (.panic c) (a.put d v) w → Q (.panic c) a w) (hg : oi.guard = none) (hy : ∀ w, (execOp a.eval oi).run P w = .ok (.value v) w)
    (h : wpAnyL P md ops Q S st fuel (listed.setIfInBounds i true) (a.put d v) w) : wpAnyL P md ops Q S st (fuel + 1) listed a w := by
  subst hd
  exact wpAnyL_first listed (fun _ => True) hi hs hQ (fun _ _ _ _ _ _ _ _ => trivial) (.inl hst) fuel listed a w (closed_of hcl) (fun _ h => h) (Region.free_spec hi hf) (by simpa using hr) (.inl ⟨by unfold Region.wanted; rw [hg], fun w _ => hy w⟩) trivial h
/-- One operation that is ready, carried out. -/
theorem wpOp_one {i : Nat} {o : Oper} {K : Act → World → Prop} {a : Act} {w : World} (ho : ops[i]? = some o) (hg : o.guard = none) (h : o.wp P a w K Q) : wpOp P ops Q i K a w := by
  unfold wpOp
  have hw : Region.wanted o (yielded ops a.tmps) = true := by unfold Region.wanted; rw [hg]
  simp only [ho, hw, if_true]
  exact .inl h
theorem wpAnyL_one {i : Nat} {o : Oper} {fuel : Nat} {listed : Array Bool} {a : Act} {w : World} (hr : Region.ready md ops listed = [i]) (ho : ops[i]? = some o) (hg : o.guard = none)
    (h : o.wp P a w (fun a' w' => (i ∉ st → S w') ∧ wpAnyL P md ops Q S st fuel (listed.setIfInBounds i true) a' w') Q) : wpAnyL P md ops Q S st (fuel + 1) listed a w :=
  ⟨fun h0 => (by rw [hr] at h0; cases h0), fun j hj => by
    rw [hr] at hj
    obtain rfl : j = i := by simpa using hj
    exact wpOp_one ho hg h⟩
theorem wpAnyL_two {i i' : Nat} {o o' : Oper} {fuel : Nat} {listed : Array Bool} {a : Act} {w : World} (hr : Region.ready md ops listed = [i, i']) (ho : ops[i]? = some o) (hg : o.guard = none) (ho' : ops[i']? = some o') (hg' : o'.guard = none)
    (h : o.wp P a w (fun a' w' => (i ∉ st → S w') ∧ wpAnyL P md ops Q S st fuel (listed.setIfInBounds i true) a' w') Q)
    (h' : o'.wp P a w (fun a' w' => (i' ∉ st → S w') ∧ wpAnyL P md ops Q S st fuel (listed.setIfInBounds i' true) a' w') Q) : wpAnyL P md ops Q S st (fuel + 1) listed a w :=
  ⟨fun h0 => (by rw [hr] at h0; cases h0), fun j hj => by
    rw [hr] at hj
    have hj' : j = i ∨ j = i' := by simpa using hj
    rcases hj' with rfl | rfl
    · exact wpOp_one ho hg h
    · exact wpOp_one ho' hg' h'⟩
theorem wpAnyL_done {listed : Array Bool} {a : Act} {w : World} (hr : Region.ready md ops listed = []) (h : Q .normal a w) : ∀ fuel, wpAnyL P md ops Q S st fuel listed a w
  | 0 => ⟨hr, h⟩
  | _ + 1 => ⟨fun _ => h, by rw [hr]; simp⟩
theorem region_roundL {id : Nat} {a : Act} {w : World} {lp n : Nat} (S : World → Prop) (st : List Nat) (hd : noDefer ops = true) (hQ : ¬ LetsOut Q) (hm : P.follows .mixedOrders = true)
    (h : wpAnyL P .any ops Q S st ops.size (Array.replicate ops.size false) a w.drew) : (Code.region id ops true).wpIn (Fence.wide.inRound lp) n P Q a w :=
  wpIn_region_draw fun t => wpOpsIn_of (noDefer_spec hd) hQ _ _ _ (by
    simp only [Region.schedule, hm, Bool.true_or, if_true]
    exact wpAny_sound ops.size t _ a _ (wpAny_of_L _ _ _ _ h))
theorem wp_value {o : Oper} {a : Act} {w w1 : World} {v : Value} {K : Act → World → Prop} (d : Option Tmp) (hd : o.dst = d) (h : (execOp a.eval o).run P w = .ok (.value v) w1) (hK : K (a.put d v) w1) : o.wp P a w K Q := by
  subst hd
  unfold Oper.wp
  rw [h]
  exact hK
theorem wp_skips {o : Oper} {a : Act} {w w1 : World} {K : Act → World → Prop} (d : Option Tmp) (hd : o.dst = d) (h : (execOp a.eval o).run P w = .ok .skip w1) (hK : K (a.put d undef) w1) : o.wp P a w K Q := by
  subst hd
  unfold Oper.wp
  rw [h]
  exact hK
end
end Go.Proofs.YtddcfgbembjbhaaDoor
