/- The law CrcByte, walked. -/
import Derived.Test.YtddcfgbembjbhaaDoorCrcHead
import Derived.Test.YtddcfgbembjbhaaDoorOwn
namespace Go.Proofs.YtddcfgbembjbhaaDoor
open Go.RowKit
set_option linter.unusedVariables false
theorem list_cut (l : List UInt8) (i : Nat) (h : i < l.length) : l = l.take i ++ l[i] :: l.drop (i + 1) := by simp
theorem list_set (l : List UInt8) (i : Nat) (v : UInt8) (h : i < l.length) : l.set i v = l.take i ++ v :: l.drop (i + 1) := by
  rw [List.set_eq_take_append_cons_drop, if_pos h]
theorem xor_ne (a b : UInt8) (h : b ≠ 0) : a ^^^ b ≠ a := by
  intro e
  apply h
  have : a ^^^ (a ^^^ b) = a ^^^ a := by rw [e]
  simpa [← UInt8.xor_assoc] using this
theorem sum_set_ne (s : BitVec 32) (l : List UInt8) (i : Nat) (v : UInt8) (h : i < l.length) (hv : v ≠ l[i]) : Crc.add s (l.set i v) ≠ Crc.add s l := by
  rw [list_set l i v h]
  conv => rhs; rw [list_cut l i h]
  exact Crc.add_one_ne s _ _ hv

set_option maxRecDepth 100000 in
set_option maxHeartbeats 400000 in
theorem walkCrcByte (w : World) (hw : 0 < w.heap.size) (ht : Four w) (A : Option Addr) (n c : Nat) (l : List UInt8) (hr : BytesAt w w.heap.size A n l) (hc : n ≤ c) (hn : c ≤ 140737488351232)
    (x : Int) (hx : 0 ≤ x ∧ x ≤ 65535) (y : Int) (hy : 0 ≤ y ∧ y ≤ 255) :
    Calls Tryd.prog 5 #[.slice A n c, .int .u16 x, .int .u8 y] w fun e w' => e = .returned (.bool true) ∧ Below w.heap.size w w' := by
  obtain ⟨x, rfl⟩ := Int.eq_ofNat_of_zero_le hx.1
  obtain ⟨Y, rfl⟩ : ∃ Y : UInt8, y = (Y.toNat : Int) := ⟨UInt8.ofNat y.toNat, by simp; omega⟩
  by_cases hn0 : n = 0
  · subst hn0
    go_enter Tryd.func5, Tryd.ntmps5
    go_wp2_with fail
    refine (head02 w hw ht).mono ?_
    rintro e w1 ⟨rfl, b1⟩
    go_wp2
    go_ret
    exact ⟨rfl, b1⟩
  have hnb : ((n : Int) == 0) = false := by simp; omega
  by_cases hy0 : Y = 0
  · subst hy0
    go_enter Tryd.func5, Tryd.ntmps5
    go_wp2_with fail
    refine (head02 w hw ht).mono ?_
    rintro e w1 ⟨rfl, b1⟩
    go_wp2
    go_ret
    exact ⟨rfl, b1⟩
  have hyb : ((Y.toNat : Int) == 0) = false := by
    have : Y.toNat ≠ 0 := fun h => hy0 (UInt8.toNat_inj.1 h)
    simp; omega
  obtain ⟨i, hi, hilt⟩ : ∃ i : Nat, (x : Int) % (n : Int) = (i : Int) ∧ i < n := ⟨x % n, by omega, Nat.mod_lt _ (by omega)⟩
  have hil : i < l.length := by rw [hr.1]; exact hilt
  obtain ⟨v, hv⟩ : ∃ v, v = l[i] := ⟨_, rfl⟩
  have e1 : bits .xor .u8 (v.toNat : Int) (Y.toNat : Int) = ((v ^^^ Y).toNat : Int) := by rw [u8_xor_nat _ _ v.toNat_lt Y.toNat_lt, UInt8.toNat_xor]
  have HN := Lib.hid (sum_set_ne 0 l i (v ^^^ Y) hil (by rw [hv]; exact xor_ne _ _ hy0))
  generalize hvy : v ^^^ Y = vy at *
  have HV := Lib.hid hv
  clear hv hvy
  go_enter Tryd.func5, Tryd.ntmps5
  go_wp2_with fail
  refine (head02 w hw ht).mono ?_
  rintro e w1 ⟨rfl, b1⟩
  have hs1 := b1.size
  have hr1 := hr.below b1
  have ht1 := ht.below b1 hw
  have hown := OwnB.empty w1 w.heap.size _ rfl hs1
  have hr2 := hr1.below ((Below.refl w.heap.size w1).alloc hs1 (.cells #[] 5))
  go_wp2_with (at_builtin; refine wpList_append_bytes rfl (.tmp 19) (.tmp 20) rfl rfl hown rfl hr2 (by omega) (by simp; omega) ?_; intro A' c' w2 hown2 hg2 hat2; simp only [Nat.zero_add, List.nil_append] at hown2; obtain ⟨g, rfl, hbg, hgs, hnc⟩ := hown2.form_pos (by omega); have hci := hown2.cell i hil; have hfi := hown2.frozen i; rw [← HV.out] at hci; unfold u8 at hci)
  have b2 := (b1.alloc hs1 (.cells #[] 5)).grown hg2 (by simp; omega) (by intro k hk; simp at hk; omega)
  have b3 := b2.setCell (p := ⟨g, i, none⟩) hbg (u8 vy)
  have hown3 := hown2.set i hilt vy
  refine (crcSum _ n c' _ _ _ hown3.bytes (by omega) (ht.below b3 hw)).mono ?_
  rintro e w' ⟨rfl, rfl⟩
  go_wp2_with fail
  refine (crcSum _ n c l _ _ (hr.below b3) (by omega) (ht.below b3 hw)).mono ?_
  rintro e w' ⟨rfl, rfl⟩
  have HE : (((Crc.add 0 (l.set i vy)).toNat : Int) == ((Crc.add 0 l).toNat : Int)) = false := by
    rw [beq_eq_false_iff_ne]
    intro h
    exact HN.out (BitVec.eq_of_toNat_eq (by omega))
  generalize ((Crc.add 0 (l.set i vy)).toNat : Int) = X1 at *
  generalize ((Crc.add 0 l).toNat : Int) = X2 at *
  have HE' : (X1 != X2) = true := by rw [bne, HE]; rfl
  go_wp2
  go_ret
  exact ⟨rfl, b3⟩
end Go.Proofs.YtddcfgbembjbhaaDoor
