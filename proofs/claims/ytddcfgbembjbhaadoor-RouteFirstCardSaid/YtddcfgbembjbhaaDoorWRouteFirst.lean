/- The law RouteFirst, walked. -/
import Derived.Test.YtddcfgbembjbhaaDoorRoute8
namespace Go.Proofs.YtddcfgbembjbhaaDoor
open Go.RowKit
set_option linter.unusedVariables false
set_option linter.unusedSimpArgs false
theorem free_zero (x : Int) : free ((0 : Nat) : Int) x = true := by
  unfold free
  have h : ((0 : Nat) : Int) / 2 ^ x.toNat % 2 = 0 := by simp
  rw [decide_eq_true h, Bool.or_true]
theorem pick_first (f : Int → Bool) (c : List Int) : pickL (free ((0 : Nat) : Int)) f c = ((c.filter f).head?).getD (-1) := by
  unfold pickL
  cases c.filter f with
  | nil => rfl
  | cons x xs => rw [List.find?_cons_of_pos (free_zero x)]; rfl
/-- No seat, nobody tried, a target: where the split has it. -/
theorem first_split (P : PlanV) (l : List UInt8) (h0 : 0 ≤ P.target) (hpc : P.percent ≤ 100) : pickL (free ((0 : Nat) : Int)) P.names (P.cand (-1) l) = splitOf P.target P.prev P.percent (bucketOf l) := by
  have hm1 : ¬ P.names (-1) = true := by unfold PlanV.names named; simp
  have hn : P.names (splitOf P.target P.prev P.percent (bucketOf l)) = true := by
    have hb := bucketOf_lt l
    generalize bucketOf l = k at *
    unfold splitOf
    rw [if_neg (by omega)]
    by_cases h1 : P.prev < 0
    · rw [if_pos h1]; unfold PlanV.names named; simp [h0]
    · rw [if_neg h1]
      by_cases h2 : (k : Int) < P.percent
      · rw [if_pos h2]; unfold PlanV.names named; simp [h0]
      · rw [if_neg h2]
        have h3 : P.percent < 100 := by omega
        have h4 : 0 ≤ P.prev := by omega
        unfold PlanV.names named
        simp [h3, h4]
  rw [pick_first]
  unfold PlanV.cand
  rw [List.filter_cons_of_neg hm1, List.filter_cons_of_pos hn]
  rfl
/-- Without a target: nobody, the one ahead, or the spill. -/
theorem first_none (P : PlanV) (l : List UInt8) (h0 : P.target < 0) : pickL (free ((0 : Nat) : Int)) P.names (P.cand (-1) l) = -1 ∨ pickL (free ((0 : Nat) : Int)) P.names (P.cand (-1) l) = P.prev ∨ pickL (free ((0 : Nat) : Int)) P.names (P.cand (-1) l) = P.spill := by
  have hm1 : ¬ P.names (-1) = true := by unfold PlanV.names named; simp
  have ht : ¬ P.names P.target = true := by
    unfold PlanV.names named
    rw [decide_eq_false (by omega)]
    simp
  have hs : splitOf P.target P.prev P.percent (bucketOf l) = -1 := by unfold splitOf; rw [if_pos h0]
  rw [pick_first]
  unfold PlanV.cand
  rw [hs, List.filter_cons_of_neg hm1, List.filter_cons_of_neg hm1, List.filter_cons_of_neg ht]
  by_cases hp : P.names P.prev = true
  · rw [List.filter_cons_of_pos hp]; exact .inr (.inl rfl)
  · rw [List.filter_cons_of_neg hp]
    by_cases hq : P.names P.spill = true
    · rw [List.filter_cons_of_pos hq]; exact .inr (.inr rfl)
    · rw [List.filter_cons_of_neg hq]; exact .inl rfl
set_option maxRecDepth 100000 in
set_option maxHeartbeats 4000000 in
theorem walkRouteFirst (w : World) (hw : 0 < w.heap.size) (ht : Four w) (P : PlanV) (hPo : P.Ok) (A : Option Addr) (n c : Nat) (l : List UInt8) (hr : BytesAt w w.heap.size A n l) (hc : n ≤ c) (hn : c ≤ 140737488351232) :
    Calls Tryd.prog 20 #[P.val, .slice A n c] w fun e w' => e = .returned (.bool true) ∧ Below w.heap.size w w' := by
  have hP := PlanAt.new w P
  have b1 := (Below.refl w.heap.size w).alloc (Nat.le_refl _) (.cells P.cells.toArray 39)
  have hg1 : w.heap.size < (w.alloc (.cells P.cells.toArray 39)).heap.size := by simp
  have F1 := Lib.hid (first_split P l)
  have F2 := Lib.hid (first_none P l)
  obtain ⟨p0, p1, p2, p3, p4, p5, p6, p7, p8, p9, pA, pn, pc, cA, cn, cc⟩ := P
  simp only [PlanV.val, PlanV.cells] at hP b1 hg1 F1 F2 ⊢
  go_enter Tryd.func20, Tryd.ntmps20
  go_wp2_with fail
  generalize w.alloc (.cells #[.int .i64 p0, .int .i64 p1, .int .i64 p2, .int .i64 p3, .int .i64 p4, .int .i64 p5, .int .i64 p6, .int .i64 p7, .int .u64 p8, .int .u64 p9, .slice pA pn pc, .slice cA cn cc] 39) = w1 at *
  refine (head21 w1 (by omega) (ht.below b1 hw)).mono ?_
  rintro e w2 ⟨rfl, b2⟩
  have hP2 := hP.below b2 hg1
  have b3 := b1.trans (b2.mono b1.size)
  have hs2 := b2.size
  have hr2 := hr.below b3
  have ht2 := ht.below b3 hw
  have HB3 := Lib.hid b3
  have hgw : w.heap.size < w2.heap.size := by omega
  have hle : w.heap.size ≤ w2.heap.size := b3.size
  have HP2 := Lib.hid hP2
  obtain ⟨c0, c1, c2, c3, c4, c5, c6, c7, c8, c9, c10, c11⟩ := hP2
  simp only at c0 c1 c2 c3 c4 c5 c6 c7 c8 c9 c10 c11
  have Q47 := Lib.hid (routePick ⟨p0, p1, p2, p3, p4, p5, p6, p7, p8, p9, pA, pn, pc, cA, cn, cc⟩ A n c l (-1) 0 (by omega) w2 (by omega) ht2 (hr2.more hle) (by omega))
  have HR2 := Lib.hid hr2
  clear hP b2 b1 b3 hr ht hr2 ht2
  by_cases hpc : 0 ≤ p4 ∧ p4 ≤ 100
  rotate_left
  · by_cases hp0 : p4 < 0
    · go_wp2_with fail
      go_ret
      exact ⟨by simp, HB3.out⟩
    · have hp1 : 100 < p4 := by omega
      go_wp2_with fail
      go_ret
      exact ⟨by simp, HB3.out⟩
  obtain ⟨hp0, hp1⟩ := hpc
  go_wp2_with fail
  refine Q47.out.mono ?_
  rintro e w3 ⟨rfl, b4⟩
  have hs3 := b4.size
  have HB4 := Lib.hid (HB3.out.trans (b4.mono hle))
  have HR3 := Lib.hid ((HR2.out.below (b4.mono hle)).more HB4.out.size)
  obtain ⟨d0, d1, d2, d3, d4, d5, d6, d7, d8, d9, d10, d11⟩ := HP2.out.below b4 hgw
  simp only at d0 d1 d2 d3 d4 d5 d6 d7 d8 d9 d10 d11
  clear b4 c0 c1 c2 c3 c4 c5 c6 c7 c8 c9 c10 c11 Q47
  by_cases ht0 : p1 < 0
  · have h := F2.out ht0
    clear F1 F2
    generalize pickL (free ((0 : Nat) : Int)) (PlanV.names ⟨p0, p1, p2, p3, p4, p5, p6, p7, p8, p9, pA, pn, pc, cA, cn, cc⟩) (PlanV.cand ⟨p0, p1, p2, p3, p4, p5, p6, p7, p8, p9, pA, pn, pc, cA, cn, cc⟩ (-1) l) = x at *
    by_cases hx1 : x = -1
    · subst hx1
      go_wp2_with fail
      go_ret
      exact ⟨by simp, HB4.out⟩
    · by_cases hx2 : x = p2
      · subst hx2
        clear h
        go_wp2_with fail
        go_ret
        exact ⟨by simp, HB4.out⟩
      · have hx3 : x = p3 := by rcases h with h | h | h <;> first | exact absurd h hx1 | exact absurd h hx2 | exact h
        subst hx3
        clear h
        go_wp2_with fail
        go_ret
        exact ⟨by simp, HB4.out⟩
  · have h := F1.out (by omega) hp1
    have H := Lib.hid h
    clear F1 F2 h
    rw [H.out]
    go_wp2_with fail
    refine (refSplit ⟨p0, p1, p2, p3, p4, p5, p6, p7, p8, p9, pA, pn, pc, cA, cn, cc⟩ A n c l w3 HR3.out (by omega)).mono ?_
    rintro e w4 ⟨rfl, b5⟩
    have HB5 := Lib.hid (HB4.out.trans (b5.mono HB4.out.size))
    clear b5
    generalize splitOf p1 p2 p4 (bucketOf l) = X at *
    go_wp2_with fail
    go_ret
    exact ⟨by simp, HB5.out⟩
end Go.Proofs.YtddcfgbembjbhaaDoor
