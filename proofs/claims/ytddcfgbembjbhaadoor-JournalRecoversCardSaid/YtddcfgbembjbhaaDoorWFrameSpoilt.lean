/- The law FrameSpoilt, walked. -/
import Derived.Test.YtddcfgbembjbhaaDoorWFrameSizes
namespace Go.Proofs.YtddcfgbembjbhaaDoor
open Go.RowKit
set_option linter.unusedVariables false
theorem spoilt_all (k : UInt8) (l : List UInt8) (i : Nat) (v : UInt8) (h : l.length ≤ 8192) (hi : 4 ≤ i ∧ i < l.length + 8 ∨ i = 1) (hv : v ≠ (fput k l).getD i 0) : getAll ((fput k l).set i v) 0 = (0, [], 0, 33) :=
  getAll_err (i := 0) (Nat.zero_le _) (by rw [List.drop_zero]; exact spoilt k l i v h hi hv) (by decide)
theorem OwnB.cellD {w : World} {base n c g : Nat} {l : List UInt8} (h : OwnB w base (some ⟨g, 0, none⟩) n c l) (i : Nat) (hi : i < n) : w.cell? ⟨g, i, none⟩ = some (.int .u8 ((l.getD i 0).toNat : Int)) := by
  have hl := h.len
  rw [h.cell i (by omega), List.getD_eq_getElem?_getD, List.getElem?_eq_getElem (by omega)]
  rfl
set_option maxRecDepth 100000 in
set_option maxHeartbeats 1000000 in
theorem walkFrameSpoilt (w : World) (hw : 0 < w.heap.size) (ht : Four w) (x : Int) (hx : 0 ≤ x ∧ x ≤ 255) (A : Option Addr) (n c : Nat) (l : List UInt8) (hr : BytesAt w w.heap.size A n l) (hc : n ≤ c) (hn : c ≤ 140737488351232)
    (a : Int) (ha : 0 ≤ a ∧ a ≤ 65535) (y : Int) (hy : 0 ≤ y ∧ y ≤ 255) :
    Calls Tryd.prog 15 #[.int .u8 x, .slice A n c, .int .u16 a, .int .u8 y] w fun e w' => e = .returned (.bool true) ∧ Below w.heap.size w w' := by
  obtain ⟨k, rfl⟩ : ∃ k : UInt8, x = (k.toNat : Int) := ⟨UInt8.ofNat x.toNat, by simp; omega⟩
  obtain ⟨Y, rfl⟩ : ∃ k : UInt8, y = (k.toNat : Int) := ⟨UInt8.ofNat y.toNat, by simp; omega⟩
  obtain ⟨a, rfl⟩ := Int.eq_ofNat_of_zero_le ha.1
  have hl := hr.1
  have HR := Lib.hid hr
  clear hr
  by_cases h1 : 8192 < n
  · have he : putE l = 2 := putE_no (by omega)
    clear hl h1
    go_enter Tryd.func15, Tryd.ntmps15
    go_wp2_with fail
    refine (head03 w hw ht).mono ?_
    rintro e w1 ⟨rfl, b1⟩
    have hs1 := b1.size
    go_wp2_with fail
    refine (framePut k A n c l w.heap.size w1 (by omega) (ht.below b1 hw) (HR.out.below b1) hs1 (by omega)).mono ?_
    rintro e w3 ⟨A3, n3, c3, rfl, ho3, hb3⟩
    have HO3 := Lib.hid ho3
    have b3 := b1.trans (hb3.mono hs1)
    clear ho3 hb3
    rw [he]
    go_wp2
    go_ret
    exact ⟨by simp, b3⟩
  have he : Hid (putE l = 0) := Lib.hid (putE_ok (by omega))
  have hf : Hid (putB k l = fput k l) := Lib.hid (putB_ok (by omega))
  have hfl : (fput k l).length = n + 8 := by rw [fput_len]; omega
  by_cases h0 : Y = 0
  · subst h0
    rw [show (((0 : UInt8).toNat : Nat) : Int) = 0 from rfl]
    clear hl hy
    have HFL := Lib.hid hfl
    clear hfl
    go_enter Tryd.func15, Tryd.ntmps15
    go_wp2_with fail
    refine (head03 w hw ht).mono ?_
    rintro e w1 ⟨rfl, b1⟩
    have hs1 := b1.size
    go_wp2_with fail
    refine (framePut k A n c l w.heap.size w1 (by omega) (ht.below b1 hw) (HR.out.below b1) hs1 (by omega)).mono ?_
    rintro e w3 ⟨A3, n3, c3, rfl, ho3, hb3⟩
    rw [hf.out] at ho3
    have hl3 : 8 ≤ n3 := by have := ho3.len; rw [HFL.out] at this; omega
    have HO3 := Lib.hid ho3
    have b3 := b1.trans (hb3.mono hs1)
    clear ho3 hb3
    rw [he.out]
    go_wp2
    go_ret
    exact ⟨by simp; omega, b3⟩
  have hyb : ((Y.toNat : Int) == 0) = false := by
    have : Y.toNat ≠ 0 := fun h => h0 (UInt8.toNat_inj.1 h)
    simp; omega
  obtain ⟨i, hi, hilo, hihi⟩ : ∃ i : Nat, wrap64 (4 + (a : Int) % ((n : Int) + 8 - 4)) = (i : Int) ∧ 4 ≤ i ∧ i < n + 8 := by
    have hm := Nat.mod_lt a (show 0 < n + 4 by omega)
    have e : (a : Int) % ((n : Int) + 8 - 4) = ((a % (n + 4) : Nat) : Int) := by rw [show (n : Int) + 8 - 4 = ((n + 4 : Nat) : Int) by omega, Int.natCast_emod]
    refine ⟨4 + a % (n + 4), ?_, by omega, by omega⟩
    rw [e]
    unfold wrap64
    omega
  obtain ⟨V, hV⟩ : ∃ V, V = (fput k l).getD i 0 := ⟨_, rfl⟩
  have e1 : bits .xor .u8 (V.toNat : Int) (Y.toNat : Int) = ((V ^^^ Y).toNat : Int) := by rw [u8_xor_nat _ _ V.toNat_lt Y.toNat_lt, UInt8.toNat_xor]
  have e2 : bits .xor .u8 ((V ^^^ Y).toNat : Int) (Y.toNat : Int) = (V.toNat : Int) := by
    rw [u8_xor_nat _ _ (V ^^^ Y).toNat_lt Y.toNat_lt, ← UInt8.toNat_xor, UInt8.xor_assoc, UInt8.xor_self, UInt8.xor_zero]
  have e3 : bits .xor .u8 (k.toNat : Int) (Y.toNat : Int) = ((k ^^^ Y).toNat : Int) := by rw [u8_xor_nat _ _ k.toNat_lt Y.toNat_lt, UInt8.toNat_xor]
  have hk1 : (fput k l).getD 1 0 = k := by simp [fput_form]
  have G1 := Lib.hid (spoilt_all k l i (V ^^^ Y) (by omega) (.inl ⟨hilo, by omega⟩) (by rw [← hV]; exact xor_ne _ _ h0))
  have G2 := Lib.hid (spoilt_all k l 1 (k ^^^ Y) (by omega) (.inr rfl) (by rw [hk1]; exact xor_ne _ _ h0))
  have HK := Lib.hid hk1
  have HV := Lib.hid hV
  have hback : Hid (((fput k l).set i (V ^^^ Y)).set i V = fput k l) := Lib.hid (by
    rw [List.set_set, hV]
    apply List.ext_getElem?
    intro j
    by_cases hij : i = j
    · subst hij
      rw [List.getElem?_set_self (by omega), List.getD_eq_getElem?_getD, List.getElem?_eq_getElem (by omega)]
      rfl
    · rw [List.getElem?_set_ne hij])
  generalize V ^^^ Y = V1 at *
  generalize k ^^^ Y = K1 at *
  have HFL := Lib.hid hfl
  clear hl hV hk1 hfl h0
  go_enter Tryd.func15, Tryd.ntmps15
  go_wp2_with fail
  refine (head03 w hw ht).mono ?_
  rintro e w1 ⟨rfl, b1⟩
  have hs1 := b1.size
  go_wp2_with fail
  refine (framePut k A n c l w.heap.size w1 (by omega) (ht.below b1 hw) (HR.out.below b1) hs1 (by omega)).mono ?_
  rintro e w3 ⟨A3, n3, c3, rfl, ho3, hb3⟩
  rw [he.out]
  rw [hf.out] at ho3
  have b3 := b1.trans (hb3.mono hs1)
  have hs3 := b3.size
  obtain rfl : n3 = n + 8 := by have := ho3.len; rw [HFL.out] at this; omega
  obtain ⟨g, rfl, hgb, hgs, hgc⟩ := ho3.form_pos (by omega)
  have f1 := ho3.cellD i hihi
  rw [← HV.out] at f1
  have z1 := ho3.frozen i
  have o4 := Lib.hid (ho3.set i hihi V1)
  have w8 : ((n + 8 : Nat) : Int) = (n : Int) + 8 := by omega
  have b4 := b3.setCell (p := ⟨g, i, none⟩) (by show _ ≤ g; omega) (.int .u8 (V1.toNat : Int))
  clear ho3 hb3
  simp only [u8] at o4
  go_wp2_with fail
  generalize hw4 : w3.setCell ⟨g, i, none⟩ (.int .u8 (V1.toNat : Int)) = w4 at *
  have hs4 := b4.size
  have hg4 : g < w4.heap.size := by rw [← hw4]; show g < (w3.heap.modify _ _).size; rw [Array.size_modify]; exact hgs
  clear hw4 f1 z1
  refine (frameGet _ (n + 8) c3 _ 0 w4.heap.size w4 (by omega) (ht.below b4 hw) o4.out.bytes (Nat.le_refl _) (by omega) hgc).mono ?_
  rintro e w5 ⟨A5, n5, c5, rfl, ho5, hb5⟩
  rw [G1.out]
  have o5 := o4.out.later hb5
  have b5 := b4.trans (hb5.mono hs4)
  have f1 := o5.cellD i hihi
  rw [show ((fput k l).set i V1).getD i 0 = V1 by rw [List.getD_eq_getElem?_getD, List.getElem?_set_self (by rw [HFL.out]; omega)]; rfl] at f1
  have z1 := o5.frozen i
  have o6 := o5.set i hihi V
  rw [hback.out] at o6
  simp only [u8] at o6
  have b6 := b5.setCell (p := ⟨g, i, none⟩) (by show _ ≤ g; omega) (.int .u8 (V.toNat : Int))
  have hg5 : g < w5.heap.size := by have := hb5.size; omega
  have f2 := o5.cellD 1 (by omega)
  rw [show ((fput k l).set i V1).getD 1 0 = k by rw [List.getD_eq_getElem?_getD, List.getElem?_set_ne (by omega), ← List.getD_eq_getElem?_getD]; exact HK.out] at f2
  have z2 := o5.frozen 1
  have o7 := o6.set 1 (by omega) K1
  simp only [u8] at o7
  have b7 := b6.setCell (p := ⟨g, 1, none⟩) (by show _ ≤ g; omega) (.int .u8 (K1.toNat : Int))
  clear ho5 hb5 o5 o6
  have O7 := Lib.hid o7
  clear o7
  have i1 : ¬ (1 = i) := by omega
  go_wp2_with fail
  generalize hw8 : (w5.setCell ⟨g, i, none⟩ (.int .u8 (V.toNat : Int))).setCell ⟨g, 1, none⟩ (.int .u8 (K1.toNat : Int)) = w8 at *
  have hs8 := b7.size
  refine (frameGet _ (n + 8) c3 _ 0 w8.heap.size w8 (by omega) (ht.below b7 hw) O7.out.bytes (Nat.le_refl _) (by omega) hgc).mono ?_
  rintro e w9 ⟨A9, n9, c9, rfl, ho9, hb9⟩
  rw [G2.out]
  have b9 := b7.trans (hb9.mono hs8)
  clear ho9 hb9
  go_wp2
  go_ret
  exact ⟨by simp, b9⟩
end Go.Proofs.YtddcfgbembjbhaaDoor
