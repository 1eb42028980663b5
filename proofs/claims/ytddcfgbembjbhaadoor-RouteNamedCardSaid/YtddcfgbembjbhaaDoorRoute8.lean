/- Routes: the live question: walked. -/
import Derived.Test.YtddcfgbembjbhaaDoorRoute7
namespace Go.Proofs.YtddcfgbembjbhaaDoor
open Go.RowKit
set_option linter.unusedVariables false
set_option linter.unusedSimpArgs false
def planH : PlanV := ⟨0, 1, -1, 2, 100, 0, 0, 0, 0, 0, none, 0, 0, none, 0, 0⟩
theorem headOrder : orderL planH.names (planH.cand 2 []) = [2, 1] := by
  unfold PlanV.cand
  rw [bucket_nil]
  decide
theorem headPick2 : pickL (free (2 : Nat)) planH.names (planH.cand (-1) []) = 2 := by
  unfold PlanV.cand
  rw [bucket_nil]
  decide
theorem headPick6 : pickL (free (6 : Nat)) planH.names (planH.cand (-1) []) = -1 := by
  unfold PlanV.cand
  rw [bucket_nil]
  decide
set_option maxRecDepth 100000 in
set_option maxHeartbeats 2000000 in
theorem head21 (w : World) (hw : 0 < w.heap.size) (ht : Four w) : Calls Tryd.prog 43 #[] w fun e w' => e = .returned (.bool true) ∧ Below w.heap.size w w' := by
  go_enter Tryd.func43, Tryd.ntmps43
  go_wp2_with fail
  have hP := PlanAt.new w planH
  have b1 := (Below.refl w.heap.size w).alloc (Nat.le_refl _) (.cells planH.cells.toArray 39)
  have hg1 : w.heap.size < (w.alloc (.cells planH.cells.toArray 39)).heap.size := by simp
  simp only [PlanV.cells, planH] at hP b1 hg1
  generalize w.alloc (.cells #[.int .i64 0, .int .i64 1, .int .i64 (-1), .int .i64 2, .int .i64 100, .int .i64 0, .int .i64 0, .int .i64 0, .int .u64 0, .int .u64 0, .slice none 0 0, .slice none 0 0] 39) = w1 at *
  have ht1 := ht.below b1 hw
  have hs1 := b1.size
  refine (routeOrder planH none 0 0 [] 2 w1 (by omega) ht1 (BytesAt.nil _ _ _) (by omega)).mono ?_
  rintro e w2 ⟨A, n, c, rfl, ho, b2⟩
  rw [headOrder] at ho
  obtain rfl : 2 = n := ho.len
  obtain ⟨g, rfl, _, hg, _⟩ := ho.form_pos (by omega)
  have f0 : w2.cell? ⟨g, 0, none⟩ = some (.int .i64 2) := ho.cellD 0 (by omega)
  have f1 : w2.cell? ⟨g, 1, none⟩ = some (.int .i64 1) := ho.cellD 1 (by omega)
  have hs2 := b2.size
  have hP2 := hP.below b2 hg1
  have ht2 := ht1.below b2 (by omega)
  have B2 := Lib.hid (b1.trans (b2.mono hs1))
  have HT2 := Lib.hid ht2
  have HP2 := Lib.hid hP2
  obtain ⟨c0, c1, c2, c3, c4, c5, c6, c7, c8, c9, c10, c11⟩ := hP2
  simp only at c0 c1 c2 c3 c4 c5 c6 c7 c8 c9 c10 c11
  have HH2 := Lib.hid headPick2
  have HH6 := Lib.hid headPick6
  clear ho b1 b2 hP ht ht1 ht2
  go_wp2_with fail
  refine (routePick planH none 0 0 [] (-1) 2 (by omega) w2 (by omega) HT2.out (BytesAt.nil _ _ _) (by omega)).mono ?_
  rintro e w3 ⟨rfl, b3⟩
  rw [HH2.out]
  have hs3 := b3.size
  obtain ⟨d0, d1, d2, d3, d4, d5, d6, d7, d8, d9, d10, d11⟩ := HP2.out.below b3 (by omega)
  simp only at d0 d1 d2 d3 d4 d5 d6 d7 d8 d9 d10 d11
  have HT3 := Lib.hid (HT2.out.below b3 (by omega))
  have B3 := Lib.hid (B2.out.trans (b3.mono B2.out.size))
  clear b3 c0 c1 c2 c3 c4 c5 c6 c7 c8 c9 c10 c11
  go_wp2_with fail
  refine (routePick planH none 0 0 [] (-1) 6 (by omega) w3 (by omega) HT3.out (BytesAt.nil _ _ _) (by omega)).mono ?_
  rintro e w4 ⟨rfl, b4⟩
  rw [HH6.out]
  go_wp2
  go_ret
  exact ⟨by simp, B3.out.trans (b4.mono B3.out.size)⟩
end Go.Proofs.YtddcfgbembjbhaaDoor
