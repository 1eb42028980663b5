/- A region that draws: what holds behind each operation; loads that may be taken first: no program. -/
import Derived.Test.YtddcfgbembjbhaaDoorHeld
namespace Go.Proofs.YtddcfgbembjbhaaDoor
open Go.RowKit Go.Shelf
set_option linter.unusedVariables false
/-- Whatever comes up next; behind number i holds T i. -/
def wpAnyT (P : Program) (md : Region.Mode) (ops : Array Oper) (Q : Exit → Act → World → Prop) (T : Nat → World → Prop) : Nat → Array Bool → Act → World → Prop
  | 0, listed, a, w => Region.ready md ops listed = [] ∧ Q .normal a w
  | fuel + 1, listed, a, w =>
    (Region.ready md ops listed = [] → Q .normal a w) ∧
    ∀ i ∈ Region.ready md ops listed, wpOp P ops Q i (fun a' w' => T i w' ∧ wpAnyT P md ops Q T fuel (listed.setIfInBounds i true) a' w') a w
section
variable {P : Program} {ops : Array Oper} {Q : Exit → Act → World → Prop} {md : Region.Mode} {T : Nat → World → Prop}
theorem wpAny_of_T : ∀ (fuel : Nat) (listed : Array Bool) (a : Act) (w : World), wpAnyT P md ops Q T fuel listed a w → wpAny P md ops Q fuel listed a w
  | 0, _, _, _, h => h
  | fuel + 1, _, _, _, h => ⟨h.1, fun i hi => wpOp_mono (fun a' w' h' => wpAny_of_T fuel _ a' w' h'.2) (h.2 i hi)⟩
theorem wpAnyT_first {i : Nat} {oi : Oper} {v : Value} (L0 : Array Bool) (S : World → Prop) (hi : ops[i]? = some oi) (hsel : Region.noSelect ops = true) (hQ : ∀ c a w, Q (.panic c) (a.put oi.dst v) w → Q (.panic c) a w)
    (hwt : ∀ (listed : Array Bool) (j : Nat) (w' : World), Closed md ops listed → (∀ k, L0.getD k false = true → listed.getD k false = true) → listed.getD i true = false → j ∈ Region.ready md ops listed → T j w' → S w') (hSi : ∀ w', S w' → T i w') :
    ∀ (fuel : Nat) (listed : Array Bool) (a : Act) (w : World), Closed md ops listed → (∀ k, L0.getD k false = true → listed.getD k false = true) →
      (∀ j oj, ops[j]? = some oj → j ≠ i → listed.getD j true = false → (∀ e ∈ oj.after, Region.binds md e = true → e.on ≠ i) → oi.apart ops oj = true) →
      i ∈ Region.ready md ops listed → YieldsIf P ops S oi v a → S w →
      wpAnyT P md ops Q T fuel (listed.setIfInBounds i true) (a.put oi.dst v) w → wpAnyT P md ops Q T (fuel + 1) listed a w
  | fuel, listed, a, w, hcl, hL0, hfree, hr, hy, hS', H => by
    refine ⟨fun h => (by rw [h] at hr; cases hr), fun j hj => ?_⟩
    by_cases hji : j = i
    · subst hji
      exact hy.wpOp hi hS' ⟨hSi w hS', H⟩
    cases fuel with
    | zero =>
      have := ready_mono hj hji
      rw [H.1] at this
      cases this
    | succ fuel =>
      have hui := (mem_ready.1 hr).1
      obtain ⟨hjun, oj, hoj, hall⟩ := mem_ready.1 hj
      have hnot : ∀ e ∈ oj.after, Region.binds md e = true → e.on ≠ i := fun e he hb heq => by
        have h1 := hall e he hb
        rw [heq] at h1
        rcases Nat.lt_or_ge i listed.size with h' | h'
        · simp [h'] at hui h1; rw [hui] at h1; cases h1
        · simp [Array.getElem?_eq_none h'] at h1
      have h2 := wpOp_putIf hoj (hfree j oj hoj hji hjun hnot) (fun cs b => Region.noSelect_spec hsel i oi cs b hi) (fun cs b => Region.noSelect_spec hsel j oj cs b hoj) hQ hy (H.2 j (ready_mono hj hji))
      refine wpOp_mono (fun a' w' h3 => ⟨h3.2.1, ?_⟩) h2
      refine wpAnyT_first L0 S hi hsel hQ hwt hSi fuel _ a' w' (hcl.ready hj) (fun k hk => listed_mono j k (hL0 k hk)) (fun k ok hk hki hun hno => ?_) (ready_mono hr (Ne.symm hji)) h3.1 (hwt _ j w' hcl hL0 hui hj h3.2.1) ?_
      · refine hfree k ok hk hki ?_ hno
        by_cases hjk : j = k
        · subst hjk; exact hjun
        · rwa [getD_set_ne true hjk] at hun
      · rw [Array.setIfInBounds_comm _ _ hji]
        exact h3.2.2
/-- What S tells may be taken first, if the operations behind which S does not hold (st) wait for it. -/
theorem wpAnyT_take {i : Nat} {oi : Oper} {v : Value} {d : Option Tmp} (st : List Nat) (S : World → Prop) (hd : oi.dst = d) {fuel : Nat} {listed : Array Bool} {a : Act} {w : World} (hi : ops[i]? = some oi)
    (hs : Region.noSelect ops = true) (hf : Region.free md ops listed i = true) (hr : (Region.ready md ops listed).contains i = true) (hwt : waitsFor md ops listed st i = true) (hcl : closedB md ops listed = true)
    (hT : ∀ j w', j ∉ st → T j w' → S w') (hSi : ∀ w', S w' → T i w')
    (hQ : ∀ c a w, Q (.panic c) (a.put d v) w → Q (.panic c) a w) (hg : Region.wanted oi (yielded ops a.tmps) = true) (hy : ∀ w, S w → (execOp a.eval oi).run P w = .ok (.value v) w) (hS : S w)
    (h : wpAnyT P md ops Q T fuel (listed.setIfInBounds i true) (a.put d v) w) : wpAnyT P md ops Q T (fuel + 1) listed a w := by
  subst hd
  exact wpAnyT_first listed S hi hs hQ (fun _ j w' hc hL hu hj h => hT j w' (not_store hwt hL hc hu hj) h) hSi fuel listed a w (closed_of hcl) (fun _ h => h) (Region.free_spec hi hf) (by simpa using hr) (.inl ⟨hg, hy⟩) hS h
theorem wpAnyT_one {i : Nat} {o : Oper} {fuel : Nat} {listed : Array Bool} {a : Act} {w : World} (hr : Region.ready md ops listed = [i]) (ho : ops[i]? = some o) (hg : Region.wanted o (yielded ops a.tmps) = true)
    (h : o.wp P a w (fun a' w' => T i w' ∧ wpAnyT P md ops Q T fuel (listed.setIfInBounds i true) a' w') Q) : wpAnyT P md ops Q T (fuel + 1) listed a w :=
  ⟨fun h0 => (by rw [hr] at h0; cases h0), fun j hj => by
    rw [hr] at hj
    obtain rfl : j = i := by simpa using hj
    unfold wpOp
    simp only [ho, hg, if_true]
    exact .inl h⟩
theorem wpAnyT_done {listed : Array Bool} {a : Act} {w : World} (hr : Region.ready md ops listed = []) (h : Q .normal a w) : ∀ fuel, wpAnyT P md ops Q T fuel listed a w
  | 0 => ⟨hr, h⟩
  | _ + 1 => ⟨fun _ => h, by rw [hr]; simp⟩
theorem region_T {id : Nat} {a : Act} {w : World} (T : Nat → World → Prop) (hm : P.follows .mixedOrders = true)
    (h : wpAnyT P .any ops Q T ops.size (Array.replicate ops.size false) a w.drew) : (Code.region id ops true).wp P Q a w := wp_region_any hm (wpAny_of_T _ _ _ _ h)
end
end Go.Proofs.YtddcfgbembjbhaaDoor
