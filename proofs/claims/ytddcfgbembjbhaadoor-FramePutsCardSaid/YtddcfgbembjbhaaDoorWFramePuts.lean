/- The law FramePuts, walked. -/
import Derived.Test.YtddcfgbembjbhaaDoorFrame5
namespace Go.Proofs.YtddcfgbembjbhaaDoor
open Go.RowKit
set_option linter.unusedVariables false
set_option maxRecDepth 100000 in
set_option maxHeartbeats 1000000 in
theorem walkFramePuts (w : World) (hw : 0 < w.heap.size) (ht : Four w) (x : Int) (hx : 0 ≤ x ∧ x ≤ 255) (A : Option Addr) (n c : Nat) (l : List UInt8) (hr : BytesAt w w.heap.size A n l) (hc : n ≤ c) (hn : c ≤ 140737488351232) :
    Calls Tryd.prog 13 #[.int .u8 x, .slice A n c] w fun e w' => e = .returned (.bool true) ∧ Below w.heap.size w w' := by
  obtain ⟨k, rfl⟩ : ∃ k : UInt8, x = (k.toNat : Int) := ⟨UInt8.ofNat x.toNat, by simp; omega⟩
  have HR := Lib.hid hr
  clear hr
  go_enter Tryd.func13, Tryd.ntmps13
  go_wp2_with fail
  refine (head03 w hw ht).mono ?_
  rintro e w1 ⟨rfl, b1⟩
  have hs1 := b1.size
  go_wp2_with fail
  refine (framePut k A n c l w.heap.size w1 (by omega) (ht.below b1 hw) (HR.out.below b1) hs1 (by omega)).mono ?_
  rintro e w2 ⟨A2, n2, c2, rfl, ho2, hb2⟩
  have HO2 := Lib.hid ho2
  have HB2 := Lib.hid hb2
  have b2 := b1.trans (hb2.mono hs1)
  have hs2 := b2.size
  clear ho2 hb2
  go_wp2_with fail
  refine (refPut k A n c l w.heap.size w2 (HR.out.below b2) hs2 (by omega)).mono ?_
  rintro e w3 ⟨A3, n3, c3, rfl, ho3, hb3⟩
  have hcv2 := conv_str (HO2.out.later hb3).bytes c2
  have hcv3 := conv_str ho3.bytes c3
  have b3 := b2.trans (hb3.mono hs2)
  clear ho3 hb3
  generalize putE l = e1 at *
  generalize str (putB k l) = s1 at *
  go_wp2
  go_ret
  exact ⟨by simp, b3⟩
end Go.Proofs.YtddcfgbembjbhaaDoor
