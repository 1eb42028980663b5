/- A plan in memory, and what keeps it through a statement of open order. -/
import Derived.Test.YtddcfgbembjbhaaDoorSplit
namespace Go.Proofs.YtddcfgbembjbhaaDoor
open Go.RowKit
def I64 (x : Int) : Prop := -9223372036854775808 ≤ x ∧ x ≤ 9223372036854775807
def U64 (x : Int) : Prop := 0 ≤ x ∧ x ≤ 18446744073709551615
/-- Its numbers fit their kinds. -/
structure PlanV.Ok (P : PlanV) : Prop where
  epoch : I64 P.epoch
  target : I64 P.target
  prev : I64 P.prev
  spill : I64 P.spill
  percent : I64 P.percent
  stamp : I64 P.stamp
  since : I64 P.since
  ramped : I64 P.ramped
  up : U64 P.up
  sup : U64 P.sup

/-- A plan lies in block g. -/
def PlanAt (w : World) (g : Nat) (P : PlanV) : Prop :=
  w.cell? ⟨g, 0, none⟩ = some (.int .i64 P.epoch) ∧ w.cell? ⟨g, 1, none⟩ = some (.int .i64 P.target) ∧ w.cell? ⟨g, 2, none⟩ = some (.int .i64 P.prev) ∧ w.cell? ⟨g, 3, none⟩ = some (.int .i64 P.spill) ∧
  w.cell? ⟨g, 4, none⟩ = some (.int .i64 P.percent) ∧ w.cell? ⟨g, 5, none⟩ = some (.int .i64 P.stamp) ∧ w.cell? ⟨g, 6, none⟩ = some (.int .i64 P.since) ∧ w.cell? ⟨g, 7, none⟩ = some (.int .i64 P.ramped) ∧
  w.cell? ⟨g, 8, none⟩ = some (.int .u64 P.up) ∧ w.cell? ⟨g, 9, none⟩ = some (.int .u64 P.sup) ∧ w.cell? ⟨g, 10, none⟩ = some (.slice P.penA P.penN P.penC) ∧ w.cell? ⟨g, 11, none⟩ = some (.slice P.chA P.chN P.chC)
theorem PlanAt.below {w w' : World} {g B : Nat} {P : PlanV} (h : PlanAt w g P) (hb : Below B w w') (hg : g < B) : PlanAt w' g P := by
  have c : ∀ i, w'.cell? ⟨g, i, none⟩ = w.cell? ⟨g, i, none⟩ := fun i => hb.cell (p := ⟨g, i, none⟩) hg
  unfold PlanAt at h ⊢
  simp only [c]
  exact h
theorem PlanAt.new (w : World) (P : PlanV) : PlanAt (w.alloc (.cells P.cells.toArray 39)) w.heap.size P := by
  have c : ∀ i, (w.alloc (.cells P.cells.toArray 39)).cell? ⟨w.heap.size, i, none⟩ = P.cells.toArray[i]? := fun i => cell_of_row _ _ _ _ _ _ (heap_alloc_new w _)
  unfold PlanAt
  simp only [c]
  exact ⟨rfl, rfl, rfl, rfl, rfl, rfl, rfl, rfl, rfl, rfl, rfl, rfl⟩

/-- What holds in every world of the region. -/
def PlanIn (g : Nat) (P : PlanV) (w2 w' : World) : Prop := PlanAt w' g P ∧ Below w2.heap.size w2 w'
theorem PlanIn.start {g : Nat} {P : PlanV} {w2 : World} (h : PlanAt w2 g P) : PlanIn g P w2 w2.drew := ⟨h, (Below.refl _ _).drew⟩
theorem PlanIn.step {g : Nat} {P : PlanV} {w2 w' w'' : World} (h : PlanIn g P w2 w') (hb : Below w'.heap.size w' w'') (hg : g < w2.heap.size) : PlanIn g P w2 w'' := by
  have := h.2.size
  exact ⟨h.1.below hb (by omega), h.2.trans (hb.mono (by omega))⟩
theorem PlanIn.close {g : Nat} {P : PlanV} {w w2 w' : World} (h0 : Below w.heap.size w w2) (hs : w.heap.size ≤ w2.heap.size) (h : PlanIn g P w2 w') : Below w.heap.size w w' := h0.trans (h.2.mono hs)
end Go.Proofs.YtddcfgbembjbhaaDoor
