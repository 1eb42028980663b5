/- The law CrcPieces, walked, at inputs of bounded length. -/
import Derived.Test.YtddcfgbembjbhaaDoorCrcHead
import Derived.Test.YtddcfgbembjbhaaDoorOwn
namespace Go.Proofs.YtddcfgbembjbhaaDoor
open Go.RowKit
set_option linter.unusedVariables false

set_option maxRecDepth 100000 in
set_option maxHeartbeats 400000 in
theorem walkCrcPieces (w : World) (hw : 0 < w.heap.size) (ht : Four w) (A : Option Addr) (n c : Nat) (l : List UInt8) (hr : BytesAt w w.heap.size A n l) (hc : n ≤ c) (hn : c ≤ 140737488351232)
    (A2 : Option Addr) (n2 c2 : Nat) (l2 : List UInt8) (hr2 : BytesAt w w.heap.size A2 n2 l2) (hc2 : n2 ≤ c2) (hn2 : c2 ≤ 140737488351232) (hk : n + n2 ≤ 1048576) :
    Calls Tryd.prog 4 #[.slice A n c, .slice A2 n2 c2] w fun e w' => e = .returned (.bool true) ∧ Below w.heap.size w w' := by
  have HA := Lib.hid (Crc.add_append 0 l l2)
  have HN := Lib.hid (Crc.add_nil (Crc.add (0#32) l))
  go_enter Tryd.func4, Tryd.ntmps4
  go_wp2_with fail
  refine (head02 w hw ht).mono ?_
  rintro e w1 ⟨rfl, b1⟩
  have hs1 := b1.size
  have hown := OwnB.empty w1 w.heap.size _ rfl hs1
  have b2 := b1.alloc hs1 (.cells #[] 5)
  have hr3 := hr.below b2
  go_wp2_with (first
    | (at_builtin; refine wpList_append_bytes rfl (.tmp 8) (.tmp 9) rfl rfl hown rfl hr3 (by omega) (by simp; omega) ?_; intro A3 c3 w3 hown3 hg3 hat3; simp only [Nat.zero_add, List.nil_append] at hown3; have b3 := b2.grown hg3 (by simp; omega) (by intro k hk; simp at hk; omega); have hs3 := b3.size; have hr4 := hr2.below b3)
    | (at_builtin; refine wpList_append_bytes rfl (.tmp 10) (.tmp 11) rfl rfl hown3 rfl hr4 (by omega) (by omega) ?_; intro A4 c4 w4 hown4 hg4 hat4; have b4 := b3.grown hg4 hs3 (by intro k hk; rcases hat3 with h | h <;> rw [h] at hk <;> simp at hk <;> omega)))
  have ht4 := ht.below b4 hw
  refine (crcSum A n c l _ _ (hr.below b4) (by omega) ht4).mono ?_
  rintro e w' ⟨rfl, rfl⟩
  go_wp2_with fail
  refine (crcAdd _ _ A2 n2 c2 l2 _ _ rfl (hr2.below b4) (by omega) ht4).mono ?_
  rintro e w' ⟨rfl, rfl⟩
  go_wp2_with fail
  refine (crcSum A4 _ c4 _ _ _ hown4.bytes (by omega) ht4).mono ?_
  rintro e w' ⟨rfl, rfl⟩
  rw [HA.out]
  go_wp2_with fail
  refine (crcSum A n c l _ _ (hr.below b4) (by omega) ht4).mono ?_
  rintro e w' ⟨rfl, rfl⟩
  go_wp2_with fail
  refine (crcAdd _ _ none 0 0 [] 0 _ rfl (BytesAt.nil _ _ _) (by omega) ht4).mono ?_
  rintro e w' ⟨rfl, rfl⟩
  rw [HN.out]
  go_wp2_with fail
  refine (crcSum A n c l _ _ (hr.below b4) (by omega) ht4).mono ?_
  rintro e w' ⟨rfl, rfl⟩
  go_wp2
  go_ret
  exact ⟨rfl, b4⟩
end Go.Proofs.YtddcfgbembjbhaaDoor
