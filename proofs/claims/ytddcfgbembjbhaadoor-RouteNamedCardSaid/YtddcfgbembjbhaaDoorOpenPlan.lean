/- A plan that came in by value. -/
import Derived.Test.YtddcfgbembjbhaaDoorOpen
import Derived.Test.YtddcfgbembjbhaaDoorPlanAt
namespace Go.Proofs.YtddcfgbembjbhaaDoor
open Go.ChangeShapes Go.WideShapes Go.ChangeAt Go.RowKit
theorem cells39 : Tryd.prog.cellsOf 39 = 12 := by kernel_rfl
theorem cells3 : Tryd.prog.cellsOf 3 = 1 := by kernel_rfl
theorem cells2 : Tryd.prog.cellsOf 2 = 1 := by kernel_rfl
theorem cells35 : Tryd.prog.cellsOf 35 = 1 := by kernel_rfl
theorem cells36 : Tryd.prog.cellsOf 36 = 1 := by kernel_rfl
theorem cells37 : Tryd.prog.cellsOf 37 = 1 := by kernel_rfl

theorem twelve {α : Type} {l : List α} (h : l.length = 12) : ∃ a0 a1 a2 a3 a4 a5 a6 a7 a8 a9 a10 a11, l = [a0, a1, a2, a3, a4, a5, a6, a7, a8, a9, a10, a11] := by
  match l, h with
  | [a0, a1, a2, a3, a4, a5, a6, a7, a8, a9, a10, a11], _ => exact ⟨a0, a1, a2, a3, a4, a5, a6, a7, a8, a9, a10, a11, rfl⟩
section
variable {H : Type} {enc : TypeId × Value → H} {W : World}
theorem int_at {n : Nat} {t : TypeId} {k : IntKind} {c : Value} {y : Option (DataW H × List MemPlace)} (ht : Tryd.prog.underlying t = some (.int k)) (hy : ∃ z, y = some z) (h : DataW.trod enc Tryd.prog W 0 (fun _ => true) true n t [c] = y) :
    ∃ x : Int, c = .int k x ∧ (Lit.int k x).wf = true := by
  obtain ⟨z, rfl⟩ := hy
  obtain ⟨x, hc, _, hw⟩ := DataW.trod_int ht h
  exact ⟨x, by simpa using hc, hw⟩
theorem slice_at {n : Nat} {t e : TypeId} {c : Value} {y : Option (DataW H × List MemPlace)} (ht : Tryd.prog.underlying t = some (.slice e)) (hy : ∃ z, y = some z) (h : DataW.trod enc Tryd.prog W 0 (fun _ => true) true n t [c] = y) :
    ∃ a l k, c = .slice a l k := by
  obtain ⟨z, rfl⟩ := hy
  rcases DataW.trod_slice ht h with ⟨hc, _⟩ | ⟨a, len, cap, _, _, _, _, hc, _⟩
  · exact ⟨none, 0, 0, by simpa using hc⟩
  · exact ⟨some a, len, cap, by simpa using hc⟩
set_option maxRecDepth 100000 in
set_option maxHeartbeats 1000000 in
theorem open_plan {v : Value} {d : DataW H} {p : List MemPlace} (h : DataW.Trod enc Tryd.prog W 0 (fun _ => true) true 39 v d p) : ∃ P : PlanV, v = P.val ∧ P.Ok := by
  obtain ⟨fuel, hf⟩ := h
  obtain ⟨xs, n, rfl, _, hl, hx, hat⟩ := DataW.trod_struct Tryd.underlying39 hf
  rw [cells39] at hl
  obtain ⟨cs, rfl⟩ : ∃ cs, v = .agg cs := by
    cases v <;> first | exact ⟨_, rfl⟩ | (simp [Value.cells] at hl)
  simp only [Value.cells] at hl hat
  have hsome : ∀ i, i < 12 → ∃ z, xs[i]? = some z := fun i hi => ⟨xs[i]'(by rw [hx]; exact hi), List.getElem?_eq_getElem _⟩
  obtain ⟨c0, c1, c2, c3, c4, c5, c6, c7, c8, c9, c10, c11, hcs⟩ := twelve hl
  have ecs : cs = [c0, c1, c2, c3, c4, c5, c6, c7, c8, c9, c10, c11].toArray := by rw [← hcs]
  subst ecs
  have h0 := hat 0 ( ⟨ "Epoch", 2, 0, false, "", "", 0 ⟩ ) rfl
  simp only [cells2, List.drop_zero, List.take_succ_cons, List.take_zero] at h0
  obtain ⟨x0, rfl, w0⟩ := int_at Tryd.underlying2 (hsome 0 (by omega)) h0
  have h1 := hat 1 ( ⟨ "Target", 3, 1, false, "", "", 8 ⟩ ) rfl
  simp only [cells3, List.drop_succ_cons, List.drop_zero, List.take_succ_cons, List.take_zero] at h1
  obtain ⟨x1, rfl, w1⟩ := int_at Tryd.underlying3 (hsome 1 (by omega)) h1
  have h2 := hat 2 ( ⟨ "Prev", 3, 2, false, "", "", 16 ⟩ ) rfl
  simp only [cells3, List.drop_succ_cons, List.drop_zero, List.take_succ_cons, List.take_zero] at h2
  obtain ⟨x2, rfl, w2⟩ := int_at Tryd.underlying3 (hsome 2 (by omega)) h2
  have h3 := hat 3 ( ⟨ "Spill", 3, 3, false, "", "", 24 ⟩ ) rfl
  simp only [cells3, List.drop_succ_cons, List.drop_zero, List.take_succ_cons, List.take_zero] at h3
  obtain ⟨x3, rfl, w3⟩ := int_at Tryd.underlying3 (hsome 3 (by omega)) h3
  have h4 := hat 4 ( ⟨ "Percent", 3, 4, false, "", "", 32 ⟩ ) rfl
  simp only [cells3, List.drop_succ_cons, List.drop_zero, List.take_succ_cons, List.take_zero] at h4
  obtain ⟨x4, rfl, w4⟩ := int_at Tryd.underlying3 (hsome 4 (by omega)) h4
  have h5 := hat 5 ( ⟨ "Stamp", 2, 5, false, "", "", 40 ⟩ ) rfl
  simp only [cells2, List.drop_succ_cons, List.drop_zero, List.take_succ_cons, List.take_zero] at h5
  obtain ⟨x5, rfl, w5⟩ := int_at Tryd.underlying2 (hsome 5 (by omega)) h5
  have h6 := hat 6 ( ⟨ "Since", 2, 6, false, "", "", 48 ⟩ ) rfl
  simp only [cells2, List.drop_succ_cons, List.drop_zero, List.take_succ_cons, List.take_zero] at h6
  obtain ⟨x6, rfl, w6⟩ := int_at Tryd.underlying2 (hsome 6 (by omega)) h6
  have h7 := hat 7 ( ⟨ "Ramped", 2, 7, false, "", "", 56 ⟩ ) rfl
  simp only [cells2, List.drop_succ_cons, List.drop_zero, List.take_succ_cons, List.take_zero] at h7
  obtain ⟨x7, rfl, w7⟩ := int_at Tryd.underlying2 (hsome 7 (by omega)) h7
  have h8 := hat 8 ( ⟨ "Up", 35, 8, false, "", "", 64 ⟩ ) rfl
  simp only [cells35, List.drop_succ_cons, List.drop_zero, List.take_succ_cons, List.take_zero] at h8
  obtain ⟨x8, rfl, w8⟩ := int_at Tryd.underlying35 (hsome 8 (by omega)) h8
  have h9 := hat 9 ( ⟨ "Sup", 35, 9, false, "", "", 72 ⟩ ) rfl
  simp only [cells35, List.drop_succ_cons, List.drop_zero, List.take_succ_cons, List.take_zero] at h9
  obtain ⟨x9, rfl, w9⟩ := int_at Tryd.underlying35 (hsome 9 (by omega)) h9
  have h10 := hat 10 ( ⟨ "Pen", 36, 10, false, "", "", 80 ⟩ ) rfl
  simp only [cells36, List.drop_succ_cons, List.drop_zero, List.take_succ_cons, List.take_zero] at h10
  obtain ⟨a10, l10, k10, rfl⟩ := slice_at Tryd.underlying36 (hsome 10 (by omega)) h10
  have h11 := hat 11 ( ⟨ "Changes", 37, 11, false, "", "", 104 ⟩ ) rfl
  simp only [cells37, List.drop_succ_cons, List.drop_zero, List.take_succ_cons, List.take_zero] at h11
  obtain ⟨a11, l11, k11, rfl⟩ := slice_at Tryd.underlying37 (hsome 11 (by omega)) h11
  exact ⟨⟨x0, x1, x2, x3, x4, x5, x6, x7, x8, x9, a10, l10, k10, a11, l11, k11⟩, rfl, ⟨bounds_i64 w0, bounds_i64 w1, bounds_i64 w2, bounds_i64 w3, bounds_i64 w4, bounds_i64 w5, bounds_i64 w6, bounds_i64 w7, bounds_u64 w8, bounds_u64 w9⟩⟩
end
end Go.Proofs.YtddcfgbembjbhaaDoor
