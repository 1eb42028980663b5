/- The law SplitEnds, walked. -/
import Derived.Test.YtddcfgbembjbhaaDoorPlanAt
namespace Go.Proofs.YtddcfgbembjbhaaDoor
open Go.RowKit
set_option linter.unusedVariables false
def planOf (t p pc : Int) : PlanV := ⟨0, t, p, 0, pc, 0, 0, 0, 0, 0, none, 0, 0, none, 0, 0⟩
set_option maxRecDepth 100000 in
set_option maxHeartbeats 1000000 in
theorem walkSplitEnds (w : World) (hw : 0 < w.heap.size) (ht : Four w) (x : Int) (hx : 0 ≤ x ∧ x ≤ 255) (y : Int) (hy : 0 ≤ y ∧ y ≤ 255) (z : Int) (hz : 0 ≤ z ∧ z ≤ 255)
    (A : Option Addr) (n c : Nat) (l : List UInt8) (hr : BytesAt w w.heap.size A n l) (hc : n ≤ c) (hn : c ≤ 140737488351232) :
    Calls Tryd.prog 11 #[.int .u8 x, .int .u8 y, .int .u8 z, .slice A n c] w fun e w' => e = .returned (.bool true) ∧ Below w.heap.size w w' := by
  obtain ⟨x, rfl⟩ := Int.eq_ofNat_of_zero_le hx.1
  obtain ⟨y, rfl⟩ := Int.eq_ofNat_of_zero_le hy.1
  obtain ⟨z, rfl⟩ := Int.eq_ofNat_of_zero_le hz.1
  obtain ⟨t, ht0, htl⟩ : ∃ t : Nat, (x : Int) % 16 = (t : Int) ∧ t < 16 := ⟨x % 16, by omega, by omega⟩
  obtain ⟨v, hv0, hvl⟩ : ∃ v : Nat, (y : Int) % 16 = (v : Int) ∧ v < 16 := ⟨y % 16, by omega, by omega⟩
  have hk := bucketOf_lt l
  have e1 : splitOf (t : Int) (v : Int) 100 (bucketOf l) = t := by unfold splitOf; rw [if_neg (by omega), if_neg (by omega), if_pos (by omega)]
  have e2 : splitOf (t : Int) (v : Int) 0 (bucketOf l) = v := by unfold splitOf; rw [if_neg (by omega), if_neg (by omega), if_neg (by omega)]
  have e3 : splitOf (t : Int) (-1) (z : Int) (bucketOf l) = t := by unfold splitOf; rw [if_neg (by omega), if_pos (by omega)]
  have H1 := Lib.hid e1
  have H2 := Lib.hid e2
  have H3 := Lib.hid e3
  clear e1 e2 e3
  go_enter Tryd.func11, Tryd.ntmps11
  go_wp2_with fail
  refine (head19 w hw ht).mono ?_
  rintro e w1 ⟨rfl, b1⟩
  have hs1 := b1.size
  go_wp2_with fail
  refine (bucket A n c l _ _ (hr.below b1) (by omega) (ht.below b1 hw)).mono ?_
  rintro e w' ⟨rfl, rfl⟩
  go_wp2_with fail
  refine (ofSplit (planOf t v 100) A n c l w1 ((hr.below b1).more hs1) (by omega) (ht.below b1 hw) (by omega)).mono ?_
  rintro e w2 ⟨rfl, b2⟩
  rw [show splitOf (planOf t v 100).target (planOf t v 100).prev (planOf t v 100).percent (bucketOf l) = t from H1.out]
  have b2 := b1.trans (b2.mono hs1)
  have hs2 := b2.size
  clear b1 hs1
  go_wp2_with fail
  refine (ofSplit (planOf t v 0) A n c l w2 ((hr.below b2).more hs2) (by omega) (ht.below b2 hw) (by omega)).mono ?_
  rintro e w3 ⟨rfl, b3⟩
  rw [show splitOf (planOf t v 0).target (planOf t v 0).prev (planOf t v 0).percent (bucketOf l) = v from H2.out]
  have b3 := b2.trans (b3.mono hs2)
  have hs3 := b3.size
  clear b2 hs2
  go_wp2_with fail
  refine (ofSplit (planOf t (-1) z) A n c l w3 ((hr.below b3).more hs3) (by omega) (ht.below b3 hw) (by omega)).mono ?_
  rintro e w4 ⟨rfl, b4⟩
  rw [show splitOf (planOf t (-1) z).target (planOf t (-1) z).prev (planOf t (-1) z).percent (bucketOf l) = t from H3.out]
  have b4 := b3.trans (b4.mono hs3)
  clear b3 hs3
  go_wp2
  go_ret
  exact ⟨rfl, b4⟩
end Go.Proofs.YtddcfgbembjbhaaDoor
