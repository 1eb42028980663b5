/- The live question of layer 2, walked: true. -/
import Derived.Test.YtddcfgbembjbhaaDoorCrc
import Derived.Lib.SlBytesConst
namespace Go.Proofs.YtddcfgbembjbhaaDoor
open Go.RowKit
theorem sum_digits : ((Crc.add 0 [49, 50, 51, 52, 53, 54, 55, 56, 57]).toNat : Int) = 3421780262 := by
  have : (Crc.add 0 [49, 50, 51, 52, 53, 54, 55, 56, 57]).toNat = 3421780262 := by decide +kernel
  rw [this]; rfl
theorem sum_none : ((Crc.add 0 []).toNat : Int) = 0 := by decide +kernel
set_option maxRecDepth 100000 in
set_option maxHeartbeats 400000 in
theorem head02 (w : World) (hw : 0 < w.heap.size) (ht : Four w) :
    Calls Tryd.prog 29 #[] w fun e w' => e = .returned (.bool true) ∧ Below w.heap.size w w' := by
  have kc := fun (w : World) (C : Array Value) (n c : Nat) => Lib.run_convert_bytes_const (P := Tryd.prog) w 23 5 C n c Tryd.underlying23 Tryd.underlying5
  go_enter Tryd.func29, Tryd.ntmps29
  go_wp2_with fail
  have b1 := (Below.refl w.heap.size w).alloc (Nat.le_refl _) (.cells #[u8 49, u8 50, u8 51, u8 52, u8 53, u8 54, u8 55, u8 56, u8 57] 5 (9, 10))
  refine (crcSum _ 9 _ [49, 50, 51, 52, 53, 54, 55, 56, 57] (w.heap.size + 1) _ (BytesAt.new w _ _ _ _ _ _ _ rfl rfl rfl (by omega)) (by omega) (ht.below b1 hw)).mono ?_
  rintro e w' ⟨rfl, rfl⟩
  rw [sum_digits]
  go_wp2_with fail
  refine (crcSum none 0 0 [] (w.heap.size + 1) _ (BytesAt.nil _ _ _) (by omega) (ht.below b1 hw)).mono ?_
  rintro e w' ⟨rfl, rfl⟩
  rw [sum_none]
  go_wp2_with fail
  have b2 := b1.alloc (by simp) (.cells #[u8 0] 5)
  refine (crcAdd 0 0 _ 1 1 [0] (w.heap.size + 2) _ rfl (BytesAt.new _ _ _ _ _ _ _ _ rfl rfl (by simp) (by omega)) (by omega) (ht.below b2 hw)).mono ?_
  rintro e w' ⟨rfl, rfl⟩
  have b3 := b2.alloc (by simp; omega) (.cells #[u8 0] 5)
  generalize hX : ((Crc.add 0 [0]).toNat : Int) = X
  have HX := Lib.hid hX
  clear hX
  go_wp2_with fail
  refine (crcSum _ 1 1 [0] (w.heap.size + 3) _ (BytesAt.new _ _ _ _ _ _ _ _ rfl rfl (by simp) (by omega)) (by omega) (ht.below b3 hw)).mono ?_
  rintro e w' ⟨rfl, rfl⟩
  rw [HX.out]
  go_wp2
  go_ret
  exact ⟨rfl, b3⟩
end Go.Proofs.YtddcfgbembjbhaaDoor
