/- The law SplitMoves, walked. -/
import Derived.Test.YtddcfgbembjbhaaDoorPlanAt
namespace Go.Proofs.YtddcfgbembjbhaaDoor
open Go.RowKit
set_option linter.unusedVariables false
theorem split_moves (t p pc : Int) (m k : Nat) (ht : ¬ t < 0) (hk : k < 100) :
    (splitOf t p pc k = t ∧ splitOf t p (min 100 (pc + m)) k = t) ∨ (splitOf t p pc k = p ∧ p ≠ t) := by
  unfold splitOf
  rw [if_neg ht, if_neg ht]
  by_cases hp : p < 0
  · simp [hp]
  · simp only [hp, if_false]
    by_cases h1 : (k : Int) < pc
    · left
      have h2 : (k : Int) < min 100 (pc + m) := by omega
      simp [h1, h2]
    · simp only [h1, if_false]
      by_cases e : p = t
      · left
        subst e
        exact ⟨rfl, by split <;> rfl⟩
      · exact .inr ⟨by first | rfl | trivial, e⟩

set_option maxRecDepth 100000 in
set_option maxHeartbeats 1000000 in
theorem walkSplitMoves (w : World) (hw : 0 < w.heap.size) (ht : Four w) (P : PlanV) (hPo : P.Ok) (x : Int) (hx : 0 ≤ x ∧ x ≤ 255) (A : Option Addr) (n c : Nat) (l : List UInt8) (hr : BytesAt w w.heap.size A n l) (hc : n ≤ c) (hn : c ≤ 140737488351232) :
    Calls Tryd.prog 10 #[P.val, .int .u8 x, .slice A n c] w fun e w' => e = .returned (.bool true) ∧ Below w.heap.size w w' := by
  obtain ⟨m, rfl⟩ := Int.eq_ofNat_of_zero_le hx.1
  have hP := PlanAt.new w P
  have hPp := hPo.percent
  clear hPo
  obtain ⟨p0, p1, p2, p3, p4, p5, p6, p7, p8, p9, pA, pn, pc, cA, cn, cc⟩ := P
  simp only [PlanV.val, PlanV.cells] at *
  have b1 := (Below.refl w.heap.size w).alloc (Nat.le_refl _) (.cells #[.int .i64 p0, .int .i64 p1, .int .i64 p2, .int .i64 p3, .int .i64 p4, .int .i64 p5, .int .i64 p6, .int .i64 p7, .int .u64 p8, .int .u64 p9, .slice pA pn pc, .slice cA cn cc] 39)
  go_enter Tryd.func10, Tryd.ntmps10
  go_wp2_with fail
  generalize hw1 : w.alloc (.cells #[.int .i64 p0, .int .i64 p1, .int .i64 p2, .int .i64 p3, .int .i64 p4, .int .i64 p5, .int .i64 p6, .int .i64 p7, .int .u64 p8, .int .u64 p9, .slice pA pn pc, .slice cA cn cc] 39) = w1 at *
  have hg1 : w.heap.size < w1.heap.size := by rw [← hw1]; simp
  clear hw1
  refine (head19 w1 (by omega) (ht.below b1 hw)).mono ?_
  rintro e w2 ⟨rfl, b2⟩
  have hP2 := hP.below b2 hg1
  have b3 := b1.trans (b2.mono (by omega))
  have hs2 := b2.size
  clear hP b1 b2
  obtain ⟨c0, c1, c2, c3, c4, c5, c6, c7, c8, c9, c10, c11⟩ := hP2
  simp only at c0 c1 c2 c3 c4 c5 c6 c7 c8 c9 c10 c11
  have hgw : w.heap.size < w2.heap.size := by omega
  have hP2 : PlanAt w2 w.heap.size ⟨p0, p1, p2, p3, p4, p5, p6, p7, p8, p9, pA, pn, pc, cA, cn, cc⟩ := ⟨c0, c1, c2, c3, c4, c5, c6, c7, c8, c9, c10, c11⟩
  have HP2 := Lib.hid hP2
  have HB3 := Lib.hid b3
  have hr2 := Lib.hid (hr.below b3)
  have ht2 := Lib.hid (ht.below b3 hw)
  clear hP2 b3 hr ht
  by_cases h4 : p4 < 0
  · go_wp2
    go_ret
    exact ⟨rfl, HB3.out⟩
  by_cases h5 : 100 < p4
  · go_wp2
    go_ret
    exact ⟨rfl, HB3.out⟩
  by_cases h1 : p1 < 0
  · go_wp2
    go_ret
    exact ⟨rfl, HB3.out⟩
  obtain ⟨q4, hq4, hq⟩ : ∃ q4 : Int, (if p4 + (m : Int) < 100 then p4 + (m : Int) else 100) = q4 ∧ q4 = min 100 (p4 + m) := ⟨_, rfl, by omega⟩
  have HQ := Lib.hid hq
  clear hq hPp
  go_wp2_with fail
  have b4 := HB3.out.alloc (by omega) (.cells #[.int .i64 p0, .int .i64 p1, .int .i64 p2, .int .i64 p3, .int .i64 q4, .int .i64 p5, .int .i64 p6, .int .i64 p7, .int .u64 p8, .int .u64 p9, .slice pA pn pc, .slice cA cn cc] 39)
  have b4' := (Below.refl w2.heap.size w2).alloc (Nat.le_refl _) (.cells #[.int .i64 p0, .int .i64 p1, .int .i64 p2, .int .i64 p3, .int .i64 q4, .int .i64 p5, .int .i64 p6, .int .i64 p7, .int .u64 p8, .int .u64 p9, .slice pA pn pc, .slice cA cn cc] 39)
  have hP4 := HP2.out.below b4' hgw
  have hQ4 := PlanAt.new w2 ⟨p0, p1, p2, p3, q4, p5, p6, p7, p8, p9, pA, pn, pc, cA, cn, cc⟩
  simp only [PlanV.cells] at hQ4
  generalize hw3 : w2.alloc (.cells #[.int .i64 p0, .int .i64 p1, .int .i64 p2, .int .i64 p3, .int .i64 q4, .int .i64 p5, .int .i64 p6, .int .i64 p7, .int .u64 p8, .int .u64 p9, .slice pA pn pc, .slice cA cn cc] 39) = w3 at *
  have hs3 : w3.heap.size = w2.heap.size + 1 := by rw [← hw3]; simp
  have hr3 := hr2.out.below (b4'.mono (by omega))
  have ht3 := ht2.out.below b4' (by omega)
  have Q37 := Lib.hid (ofSplit ⟨p0, p1, p2, p3, p4, p5, p6, p7, p8, p9, pA, pn, pc, cA, cn, cc⟩ A n c l w3 (hr3.more (by omega)) (by omega) ht3 (by omega))
  have HM := Lib.hid (split_moves p1 p2 p4 m (bucketOf l) (by omega) (bucketOf_lt l))
  rw [← HQ.out] at HM
  clear hw3
  refine Q37.out.mono ?_
  rintro e w4 ⟨rfl, b5⟩
  have hP5 := hP4.below b5 (by omega)
  have hQ5 := hQ4.below b5 (by omega)
  have b6 := b4.trans (b5.mono (by omega))
  have hs4 := b5.size
  have hr4 := hr3.below (b5.mono (by omega))
  have ht4 := ht3.below b5 (by omega)
  obtain ⟨d0, d1, d2, d3, d4, d5, d6, d7, d8, d9, d10, d11⟩ := hQ5
  simp only at d0 d1 d2 d3 d4 d5 d6 d7 d8 d9 d10 d11
  have HS3 := Lib.hid hs3
  have HB6 := Lib.hid b6
  have HP5 := Lib.hid hP5
  have Q37b := Lib.hid (ofSplit ⟨p0, p1, p2, p3, q4, p5, p6, p7, p8, p9, pA, pn, pc, cA, cn, cc⟩ A n c l w4 (hr4.more (by omega)) (by omega) ht4 (by omega))
  clear hs3 b6 hP5 hr4 ht4 hr3 ht3 hP4 hQ4 b4 b4' b5 Q37 hr2 ht2 HQ HP2 HB3 c0 c1 c2 c3 c4 c5 c6 c7 c8 c9 c10 c11
  have HM := HM.out
  simp only at HM Q37b ⊢
  generalize splitOf p1 p2 p4 (bucketOf l) = X at *
  generalize splitOf p1 p2 q4 (bucketOf l) = Y at *
  go_wp2_with fail
  refine Q37b.out.mono ?_
  rintro e w5 ⟨rfl, b7⟩
  have hP7 := HP5.out.below b7 (by have := HS3.out; omega)
  have HB7 := Lib.hid (HB6.out.trans (b7.mono (by have := HS3.out; omega)))
  obtain ⟨c0, c1, c2, c3, c4, c5, c6, c7, c8, c9, c10, c11⟩ := hP7
  simp only at c0 c1 c2 c3 c4 c5 c6 c7 c8 c9 c10 c11
  clear d0 d1 d2 d3 d4 d5 d6 d7 d8 d9 d10 d11 c0 c3 c4 c5 c6 c7 c8 c9 c10 c11 b7 Q37b HB6 HP5
  rcases HM with ⟨rfl, rfl⟩ | ⟨rfl, hne⟩
  · go_wp2
    go_ret
    exact ⟨rfl, HB7.out⟩
  · have e1 : (X == p1) = false := by simpa using hne
    have e2 : (X != p1) = true := by simpa using hne
    go_wp2
    go_ret
    exact ⟨rfl, HB7.out⟩
end Go.Proofs.YtddcfgbembjbhaaDoor
