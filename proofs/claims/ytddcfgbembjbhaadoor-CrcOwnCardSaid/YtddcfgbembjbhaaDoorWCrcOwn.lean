/- The law CrcOwn, walked. -/
import Derived.Test.YtddcfgbembjbhaaDoorCrcHead
import Derived.Test.YtddcfgbembjbhaaDoorCrcWord
namespace Go.Proofs.YtddcfgbembjbhaaDoor
open Go.RowKit
set_option linter.unusedVariables false
set_option maxRecDepth 100000 in
set_option maxHeartbeats 400000 in
theorem walkCrcOwn (w : World) (hw : 0 < w.heap.size) (ht : Four w) (A : Option Addr) (n c : Nat) (l : List UInt8) (hr : BytesAt w w.heap.size A n l) (hc : n ≤ c) (hn : c ≤ 140737488351232) :
    Calls Tryd.prog 8 #[.slice A n c] w fun e w' => e = .returned (.bool true) ∧ Below w.heap.size w w' := by
  go_enter Tryd.func8, Tryd.ntmps8
  go_wp2_with fail
  refine (head02 w hw ht).mono ?_
  rintro e w1 ⟨rfl, b1⟩
  have hr1 := hr.below b1
  have ht1 := ht.below b1 hw
  have hs1 := b1.size
  go_wp2_with fail
  refine (crcSum A n c l _ _ hr1 (by omega) ht1).mono ?_
  rintro e w' ⟨rfl, rfl⟩
  have HF := fun a b c d h => Lib.hid (Crc.add_own (Crc.add 0 l) a b c d h)
  generalize Crc.add 0 l = S at *
  have HF := HF _ _ _ _ (word_of S)
  have e0 : (S.toNat : Int) % 256 = ((byteOf S.toNat 0).toNat : Int) := by rw [byteOf_toNat]; omega
  have e1 : (S.toNat : Int) / 256 % 256 = ((byteOf S.toNat 1).toNat : Int) := by rw [byteOf_toNat]; omega
  have e2 : (S.toNat : Int) / 65536 % 256 = ((byteOf S.toNat 2).toNat : Int) := by rw [byteOf_toNat]; omega
  have e3 : (S.toNat : Int) / 16777216 = ((byteOf S.toNat 3).toNat : Int) := by have := S.isLt; rw [byteOf_toNat]; omega
  generalize byteOf S.toNat 0 = c0 at *
  generalize byteOf S.toNat 1 = c1 at *
  generalize byteOf S.toNat 2 = c2 at *
  generalize byteOf S.toNat 3 = c3 at *
  go_wp2_with fail
  have b2 := b1.alloc hs1 (.cells #[u8 c0, u8 c1, u8 c2, u8 c3] 5)
  refine (crcAdd S.toNat S _ 4 4 [c0, c1, c2, c3] (w1.heap.size + 1) _ rfl (BytesAt.new _ _ _ _ _ _ _ _ rfl rfl rfl (by omega)) (by omega) (ht.below b2 hw)).mono ?_
  rintro e w' ⟨rfl, rfl⟩
  rw [HF.out]
  go_wp2
  go_ret
  exact ⟨rfl, b2⟩
end Go.Proofs.YtddcfgbembjbhaaDoor
