/- The law CrcSums, walked. -/
import Derived.Test.YtddcfgbembjbhaaDoorCrcHead
namespace Go.Proofs.YtddcfgbembjbhaaDoor
open Go.RowKit
set_option linter.unusedVariables false
set_option maxRecDepth 100000 in
set_option maxHeartbeats 400000 in
theorem walkCrcSums (w : World) (hw : 0 < w.heap.size) (ht : Four w) (x : Int) (hx : 0 ≤ x ∧ x ≤ 4294967295) (A : Option Addr) (n c : Nat) (l : List UInt8) (hr : BytesAt w w.heap.size A n l) (hc : n ≤ c) (hn : c ≤ 140737488351232) :
    Calls Tryd.prog 3 #[.int .u32 x, .slice A n c] w fun e w' => e = .returned (.bool true) ∧ Below w.heap.size w w' := by
  obtain ⟨s, hs⟩ : ∃ s : BitVec 32, x = (s.toNat : Int) := ⟨BitVec.ofNat 32 x.toNat, by rw [BitVec.toNat_ofNat]; omega⟩
  have HS := Lib.hid hs
  clear hs
  go_enter Tryd.func3, Tryd.ntmps3
  go_wp2_with fail
  refine (head02 w hw ht).mono ?_
  rintro e w1 ⟨rfl, b1⟩
  have hr1 := hr.below b1
  have ht1 := ht.below b1 hw
  go_wp2_with fail
  refine (crcSum A n c l _ _ hr1 (by omega) ht1).mono ?_
  rintro e w' ⟨rfl, rfl⟩
  go_wp2_with fail
  refine (refSum A n c l _ _ hr1 (by omega)).mono ?_
  rintro e w' ⟨rfl, rfl⟩
  go_wp2_with fail
  refine (crcAdd x s A n c l _ _ HS.out hr1 (by omega) ht1).mono ?_
  rintro e w' ⟨rfl, rfl⟩
  go_wp2_with fail
  refine (refAdd x s A n c l _ _ HS.out hr1 (by omega)).mono ?_
  rintro e w' ⟨rfl, rfl⟩
  go_wp2
  go_ret
  exact ⟨rfl, b1⟩
end Go.Proofs.YtddcfgbembjbhaaDoor
