/- Whom a plan names, and the document's; the maker of the order: walked. -/
import Derived.Test.YtddcfgbembjbhaaDoorRouteMath
namespace Go.Proofs.YtddcfgbembjbhaaDoor
open Go.RowKit
set_option linter.unusedVariables false
set_option linter.unusedSimpArgs false
def PlanV.names (P : PlanV) (x : Int) : Bool := named P.target P.prev P.spill P.percent x
set_option maxRecDepth 100000 in
set_option maxHeartbeats 4000000 in
theorem planNames (P : PlanV) (x : Int) (w : World) : Calls Tryd.prog 84 #[P.val, .int .i64 x] w fun e w' => e = .returned (.bool (P.names x)) ∧ Below w.heap.size w w' := by
  obtain ⟨p0, p1, p2, p3, p4, p5, p6, p7, p8, p9, pA, pn, pc, cA, cn, cc⟩ := P
  simp only [PlanV.val, PlanV.cells, PlanV.names]
  have b1 := Lib.hid ((Below.refl w.heap.size w).alloc (Nat.le_refl _) (.cells #[.int .i64 p0, .int .i64 p1, .int .i64 p2, .int .i64 p3, .int .i64 p4, .int .i64 p5, .int .i64 p6, .int .i64 p7, .int .u64 p8, .int .u64 p9, .slice pA pn pc, .slice cA cn cc] 39))
  by_cases h0 : 0 ≤ x
  · by_cases h1 : x = p1
    · have e : named p1 p2 p3 p4 x = true := by simp [named, h0, h1]; omega
      rw [e]
      subst h1
      go_enter Tryd.func84, Tryd.ntmps84
      go_wp2
      go_ret
      exact ⟨by simp [*], b1.out⟩
    · by_cases h2 : x = p2
      · by_cases h4 : p4 < 100
        · have e : named p1 p2 p3 p4 x = true := by simp [named, h0, h1, h2, h4]; omega
          rw [e]
          subst h2
          go_enter Tryd.func84, Tryd.ntmps84
          go_wp2
          go_ret
          exact ⟨by simp [*], b1.out⟩
        · by_cases h3 : x = p3
          · have e : named p1 p2 p3 p4 x = true := by unfold named; rw [decide_eq_true h0, decide_eq_true h3]; simp
            rw [e]
            subst h2
            subst h3
            go_enter Tryd.func84, Tryd.ntmps84
            go_wp2
            go_ret
            exact ⟨by simp [*], b1.out⟩
          · have e : named p1 p2 p3 p4 x = false := by unfold named; rw [decide_eq_false h1, decide_eq_false h4, decide_eq_false h3]; simp
            rw [e]
            subst h2
            go_enter Tryd.func84, Tryd.ntmps84
            go_wp2
            go_ret
            exact ⟨by simp [*], b1.out⟩
      · by_cases h3 : x = p3
        · have e : named p1 p2 p3 p4 x = true := by unfold named; rw [decide_eq_true h0, decide_eq_true h3]; simp
          rw [e]
          subst h3
          go_enter Tryd.func84, Tryd.ntmps84
          go_wp2
          go_ret
          exact ⟨by simp [*], b1.out⟩
        · have e : named p1 p2 p3 p4 x = false := by unfold named; rw [decide_eq_false h1, decide_eq_false h2, decide_eq_false h3]; simp
          rw [e]
          go_enter Tryd.func84, Tryd.ntmps84
          go_wp2
          go_ret
          exact ⟨by simp [*], b1.out⟩
  · have e : named p1 p2 p3 p4 x = false := by unfold named; rw [decide_eq_false h0]; rfl
    rw [e]
    go_enter Tryd.func84, Tryd.ntmps84
    go_wp2
    go_ret
    exact ⟨by simp [*], b1.out⟩
set_option maxRecDepth 100000 in
set_option maxHeartbeats 4000000 in
theorem refNames (P : PlanV) (x : Int) (w : World) : Calls Tryd.prog 49 #[P.val, .int .i64 x] w fun e w' => e = .returned (.bool (P.names x)) ∧ Below w.heap.size w w' := by
  obtain ⟨p0, p1, p2, p3, p4, p5, p6, p7, p8, p9, pA, pn, pc, cA, cn, cc⟩ := P
  simp only [PlanV.val, PlanV.cells, PlanV.names]
  have b1 := Lib.hid ((Below.refl w.heap.size w).alloc (Nat.le_refl _) (.cells #[.int .i64 p0, .int .i64 p1, .int .i64 p2, .int .i64 p3, .int .i64 p4, .int .i64 p5, .int .i64 p6, .int .i64 p7, .int .u64 p8, .int .u64 p9, .slice pA pn pc, .slice cA cn cc] 39))
  by_cases h0 : 0 ≤ x
  · by_cases h1 : x = p1
    · have e : named p1 p2 p3 p4 x = true := by simp [named, h0, h1]; omega
      rw [e]
      subst h1
      go_enter Tryd.func49, Tryd.ntmps49
      go_wp2
      go_ret
      exact ⟨by simp [*], b1.out⟩
    · by_cases h2 : x = p2
      · by_cases h4 : p4 < 100
        · have e : named p1 p2 p3 p4 x = true := by simp [named, h0, h1, h2, h4]; omega
          rw [e]
          subst h2
          go_enter Tryd.func49, Tryd.ntmps49
          go_wp2
          go_ret
          exact ⟨by simp [*], b1.out⟩
        · by_cases h3 : x = p3
          · have e : named p1 p2 p3 p4 x = true := by unfold named; rw [decide_eq_true h0, decide_eq_true h3]; simp
            rw [e]
            subst h2
            subst h3
            go_enter Tryd.func49, Tryd.ntmps49
            go_wp2
            go_ret
            exact ⟨by simp [*], b1.out⟩
          · have e : named p1 p2 p3 p4 x = false := by unfold named; rw [decide_eq_false h1, decide_eq_false h4, decide_eq_false h3]; simp
            rw [e]
            subst h2
            go_enter Tryd.func49, Tryd.ntmps49
            go_wp2
            go_ret
            exact ⟨by simp [*], b1.out⟩
      · by_cases h3 : x = p3
        · have e : named p1 p2 p3 p4 x = true := by unfold named; rw [decide_eq_true h0, decide_eq_true h3]; simp
          rw [e]
          subst h3
          go_enter Tryd.func49, Tryd.ntmps49
          go_wp2
          go_ret
          exact ⟨by simp [*], b1.out⟩
        · have e : named p1 p2 p3 p4 x = false := by unfold named; rw [decide_eq_false h1, decide_eq_false h2, decide_eq_false h3]; simp
          rw [e]
          go_enter Tryd.func49, Tryd.ntmps49
          go_wp2
          go_ret
          exact ⟨by simp [*], b1.out⟩
  · have e : named p1 p2 p3 p4 x = false := by unfold named; rw [decide_eq_false h0]; rfl
    rw [e]
    go_enter Tryd.func49, Tryd.ntmps49
    go_wp2
    go_ret
    exact ⟨by simp [*], b1.out⟩
end Go.Proofs.YtddcfgbembjbhaaDoor
