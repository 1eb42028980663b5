/- The law SplitTells, walked. -/
import Derived.Test.YtddcfgbembjbhaaDoorPlanAt
namespace Go.Proofs.YtddcfgbembjbhaaDoor
open Go.RowKit
set_option linter.unusedVariables false
set_option maxRecDepth 100000 in
set_option maxHeartbeats 4000000 in
theorem walkSplitTells (w : World) (hw : 0 < w.heap.size) (ht : Four w) (P : PlanV) (hPo : P.Ok) (A : Option Addr) (n c : Nat) (l : List UInt8) (hr : BytesAt w w.heap.size A n l) (hc : n ≤ c) (hn : c ≤ 140737488351232) :
    Calls Tryd.prog 9 #[P.val, .slice A n c] w fun e w' => e = .returned (.bool true) ∧ Below w.heap.size w w' := by
  have hP := PlanAt.new w P
  obtain ⟨p0, p1, p2, p3, p4, p5, p6, p7, p8, p9, pA, pn, pc, cA, cn, cc⟩ := P
  simp only [PlanV.val, PlanV.cells]
  have b1 := (Below.refl w.heap.size w).alloc (Nat.le_refl _) (.cells #[.int .i64 p0, .int .i64 p1, .int .i64 p2, .int .i64 p3, .int .i64 p4, .int .i64 p5, .int .i64 p6, .int .i64 p7, .int .u64 p8, .int .u64 p9, .slice pA pn pc, .slice cA cn cc] 39)
  go_enter Tryd.func9, Tryd.ntmps9
  go_wp2_with fail
  simp only [PlanV.cells] at hP
  generalize hw1 : w.alloc (.cells #[.int .i64 p0, .int .i64 p1, .int .i64 p2, .int .i64 p3, .int .i64 p4, .int .i64 p5, .int .i64 p6, .int .i64 p7, .int .u64 p8, .int .u64 p9, .slice pA pn pc, .slice cA cn cc] 39) = w1 at *
  have hg1 : w.heap.size < w1.heap.size := by rw [← hw1]; simp
  clear hw1
  refine (head19 w1 (by omega) (ht.below b1 hw)).mono ?_
  rintro e w2 ⟨rfl, b2⟩
  have hP2 := hP.below b2 hg1
  have b3 := b1.trans (b2.mono (by omega))
  have hs2 := b2.size
  clear hP b1 b2
  go_wp2_with fail
  obtain ⟨c0, c1, c2, c3, c4, c5, c6, c7, c8, c9, c10, c11⟩ := hP2
  simp only at c0 c1 c2 c3 c4 c5 c6 c7 c8 c9 c10 c11
  have hr2 := hr.below b3
  have ht2 := ht.below b3 hw
  have HB3 := Lib.hid b3
  clear b3 hr ht
  have hst : PlanIn w.heap.size ⟨p0, p1, p2, p3, p4, p5, p6, p7, p8, p9, pA, pn, pc, cA, cn, cc⟩ w2 w2.drew := PlanIn.start ⟨c0, c1, c2, c3, c4, c5, c6, c7, c8, c9, c10, c11⟩
  have HST := Lib.hid hst
  clear hst
  have hgw : w.heap.size < w2.heap.size := by omega
  have q35 : ∀ W, PlanIn w.heap.size ⟨p0, p1, p2, p3, p4, p5, p6, p7, p8, p9, pA, pn, pc, cA, cn, cc⟩ w2 W → Calls Tryd.prog 35 #[.slice A n c] W fun e w' => e = .returned (.int .i64 (bucketOf l : Int)) ∧ W = w' :=
    fun W h => bucket A n c l w2.heap.size W ((hr2.more (by omega)).below h.2) (by omega) (ht2.below h.2 (by omega))
  have q36 : ∀ W, PlanIn w.heap.size ⟨p0, p1, p2, p3, p4, p5, p6, p7, p8, p9, pA, pn, pc, cA, cn, cc⟩ w2 W → Calls Tryd.prog 36 #[.slice A n c] W fun e w' => e = .returned (.int .i64 (bucketOf l : Int)) ∧ W = w' :=
    fun W h => refBucket A n c l w2.heap.size W ((hr2.more (by omega)).below h.2) (by omega)
  have q37 : ∀ W, PlanIn w.heap.size ⟨p0, p1, p2, p3, p4, p5, p6, p7, p8, p9, pA, pn, pc, cA, cn, cc⟩ w2 W → Calls Tryd.prog 37 #[.agg #[.int .i64 p0, .int .i64 p1, .int .i64 p2, .int .i64 p3, .int .i64 p4, .int .i64 p5, .int .i64 p6, .int .i64 p7, .int .u64 p8, .int .u64 p9, .slice pA pn pc, .slice cA cn cc], .slice A n c] W
      fun e w' => e = .returned (.int .i64 (splitOf p1 p2 p4 (bucketOf l))) ∧ Below W.heap.size W w' :=
    fun W h => ofSplit ⟨p0, p1, p2, p3, p4, p5, p6, p7, p8, p9, pA, pn, pc, cA, cn, cc⟩ A n c l W (((hr2.more (by omega)).below h.2).more h.2.size) (by omega) (ht2.below h.2 (by omega)) (by have := h.2.size; omega)
  have q38 : ∀ W, PlanIn w.heap.size ⟨p0, p1, p2, p3, p4, p5, p6, p7, p8, p9, pA, pn, pc, cA, cn, cc⟩ w2 W → Calls Tryd.prog 38 #[.agg #[.int .i64 p0, .int .i64 p1, .int .i64 p2, .int .i64 p3, .int .i64 p4, .int .i64 p5, .int .i64 p6, .int .i64 p7, .int .u64 p8, .int .u64 p9, .slice pA pn pc, .slice cA cn cc], .slice A n c] W
      fun e w' => e = .returned (.int .i64 (splitOf p1 p2 p4 (bucketOf l))) ∧ Below W.heap.size W w' :=
    fun W h => refSplit ⟨p0, p1, p2, p3, p4, p5, p6, p7, p8, p9, pA, pn, pc, cA, cn, cc⟩ A n c l W (((hr2.more (by omega)).below h.2).more h.2.size) (by omega)
  have Q35 := Lib.hid q35
  have Q36 := Lib.hid q36
  have Q37 := Lib.hid q37
  have Q38 := Lib.hid q38
  clear q35 q36 q37 q38 hr2 ht2
  generalize splitOf p1 p2 p4 (bucketOf l) = X at *
  generalize bucketOf l = k at *
  go_region_held3 (fun w' => (w'.cell? ⟨w.heap.size, 0, none⟩ = some (.int .i64 p0) ∧ w'.cell? ⟨w.heap.size, 1, none⟩ = some (.int .i64 p1) ∧ w'.cell? ⟨w.heap.size, 2, none⟩ = some (.int .i64 p2) ∧ w'.cell? ⟨w.heap.size, 3, none⟩ = some (.int .i64 p3) ∧
      w'.cell? ⟨w.heap.size, 4, none⟩ = some (.int .i64 p4) ∧ w'.cell? ⟨w.heap.size, 5, none⟩ = some (.int .i64 p5) ∧ w'.cell? ⟨w.heap.size, 6, none⟩ = some (.int .i64 p6) ∧ w'.cell? ⟨w.heap.size, 7, none⟩ = some (.int .i64 p7) ∧
      w'.cell? ⟨w.heap.size, 8, none⟩ = some (.int .u64 p8) ∧ w'.cell? ⟨w.heap.size, 9, none⟩ = some (.int .u64 p9) ∧ w'.cell? ⟨w.heap.size, 10, none⟩ = some (.slice pA pn pc) ∧ w'.cell? ⟨w.heap.size, 11, none⟩ = some (.slice cA cn cc)) ∧ Below w2.heap.size w2 w')
    ((first | exact HST.out | assumption | exact PlanIn.step (P := ⟨p0, p1, p2, p3, p4, p5, p6, p7, p8, p9, pA, pn, pc, cA, cn, cc⟩) (by assumption) (by assumption) hgw))
    ((first
      | (go_at_call 35; refine (Q35.out _ (by assumption)).mono ?_; rintro e w' ⟨rfl, rfl⟩)
      | (go_at_call 36; refine (Q36.out _ (by assumption)).mono ?_; rintro e w' ⟨rfl, rfl⟩)
      | (go_at_call 37; refine (Q37.out _ (by assumption)).mono ?_; rintro e w' ⟨rfl, hb⟩)
      | (go_at_call 38; refine (Q38.out _ (by assumption)).mono ?_; rintro e w' ⟨rfl, hb⟩)))
  go_wp2
  go_ret
  exact ⟨rfl, PlanIn.close (P := ⟨p0, p1, p2, p3, p4, p5, p6, p7, p8, p9, pA, pn, pc, cA, cn, cc⟩) HB3.out (by omega) (by assumption)⟩
end Go.Proofs.YtddcfgbembjbhaaDoor
