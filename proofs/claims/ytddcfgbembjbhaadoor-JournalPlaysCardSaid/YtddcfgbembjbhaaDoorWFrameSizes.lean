/- The law FrameSizes, walked. -/
import Derived.Test.YtddcfgbembjbhaaDoorFrame5
namespace Go.Proofs.YtddcfgbembjbhaaDoor
open Go.RowKit
set_option linter.unusedVariables false
theorem putE_ok {l : List UInt8} (h : l.length ≤ 8192) : putE l = 0 := by unfold putE; rw [if_neg (by omega)]
theorem putE_no {l : List UInt8} (h : 8192 < l.length) : putE l = 2 := by unfold putE; rw [if_pos h]
theorem putB_ok {k : UInt8} {l : List UInt8} (h : l.length ≤ 8192) : putB k l = fput k l := by unfold putB; rw [if_neg (by omega)]
theorem putB_no {k : UInt8} {l : List UInt8} (h : 8192 < l.length) : putB k l = [] := by unfold putB; rw [if_pos h]
/-- Two frames are alike just if their kinds and bodies are. -/
theorem alike_puts {k k' : UInt8} {l l' : List UInt8} (h : l.length ≤ 8192) (h' : l'.length ≤ 8192) :
    (((fput k l == fput k' l')) == (((k.toNat : Int) == (k'.toNat : Int)) && (l == l'))) = true := by
  rw [beq_iff_eq, Bool.eq_iff_iff, beq_iff_eq, Bool.and_eq_true, beq_iff_eq, beq_iff_eq]
  constructor
  · intro e
    obtain ⟨rfl, rfl⟩ := put_same h h' e
    exact ⟨rfl, rfl⟩
  · rintro ⟨e, rfl⟩
    have : k = k' := UInt8.toNat_inj.1 (by omega)
    rw [this]
set_option maxRecDepth 100000 in
set_option maxHeartbeats 1000000 in
theorem walkFrameSizes (w : World) (hw : 0 < w.heap.size) (ht : Four w) (x : Int) (hx : 0 ≤ x ∧ x ≤ 255) (A : Option Addr) (n c : Nat) (l : List UInt8) (hr : BytesAt w w.heap.size A n l) (hc : n ≤ c) (hn : c ≤ 140737488351232)
    (x2 : Int) (hx2 : 0 ≤ x2 ∧ x2 ≤ 255) (A2 : Option Addr) (n2 c2 : Nat) (l2 : List UInt8) (hr2 : BytesAt w w.heap.size A2 n2 l2) (hc2 : n2 ≤ c2) (hn2 : c2 ≤ 140737488351232) :
    Calls Tryd.prog 16 #[.int .u8 x, .slice A n c, .int .u8 x2, .slice A2 n2 c2] w fun e w' => e = .returned (.bool true) ∧ Below w.heap.size w w' := by
  obtain ⟨k, rfl⟩ : ∃ k : UInt8, x = (k.toNat : Int) := ⟨UInt8.ofNat x.toNat, by simp; omega⟩
  obtain ⟨k2, rfl⟩ : ∃ k : UInt8, x2 = (k.toNat : Int) := ⟨UInt8.ofNat x2.toNat, by simp; omega⟩
  have HL := Lib.hid hr.1
  have HL2 := Lib.hid hr2.1
  have HR := Lib.hid hr
  have HR2 := Lib.hid hr2
  clear hr hr2
  go_enter Tryd.func16, Tryd.ntmps16
  go_wp2_with fail
  refine (head03 w hw ht).mono ?_
  rintro e w1 ⟨rfl, b1⟩
  have hs1 := b1.size
  go_wp2_with fail
  refine (framePut k A n c l w.heap.size w1 (by omega) (ht.below b1 hw) (HR.out.below b1) hs1 (by omega)).mono ?_
  rintro e w3 ⟨A3, n3, c3, rfl, ho3, hb3⟩
  have HO3 := Lib.hid ho3
  have b3 := b1.trans (hb3.mono hs1)
  have hs3 := b3.size
  clear ho3 hb3
  go_wp2_with fail
  refine (framePut k2 A2 n2 c2 l2 w.heap.size w3 (by omega) (ht.below b3 hw) (HR2.out.below b3) hs3 (by omega)).mono ?_
  rintro e w4 ⟨A4, n4, c4, rfl, ho4, hb4⟩
  have b4 := b3.trans (hb4.mono hs3)
  have HB4 := Lib.hid hb4
  have HO4 := Lib.hid ho4
  clear ho4 hb4
  by_cases h1 : 8192 < l.length
  · rw [putE_no h1]
    clear h1
    generalize putE l2 = e2 at *
    go_wp2
    go_ret
    exact ⟨by simp, b4⟩
  by_cases h2 : 8192 < l2.length
  · rw [putE_ok (l := l) (by omega), putE_no h2]
    clear h1 h2
    go_wp2
    go_ret
    exact ⟨by simp, b4⟩
  rw [putE_ok (l := l) (by omega), putE_ok (l := l2) (by omega)]
  have ho3 := HO3.out.later HB4.out
  have ho4 := HO4.out
  rw [putB_ok (by omega)] at ho3 ho4
  have hl3 : n3 = n + 8 := by have := ho3.len; rw [fput_len, HL.out] at this; omega
  have hcv3 := conv_str ho3.bytes c3
  have hcv4 := conv_str ho4.bytes c4
  have hcv1 := conv_str (HR.out.below b4) c
  have hcv2 := conv_str (HR2.out.below b4) c2
  have hal := alike_puts (k := k) (k' := k2) (l := l) (l' := l2) (by omega) (by omega)
  rw [← str_beq, ← str_beq l l2] at hal
  obtain ⟨g, rfl, _, _, _⟩ := ho3.form_pos (by omega)
  have f0 := ho3.cell 0 (by rw [fput_len]; omega)
  have f1 := ho3.cell 1 (by rw [fput_len]; omega)
  have e0 : (fput k l)[0]'(by rw [fput_len]; omega) = 247 := by simp [fput_form]
  have e1 : (fput k l)[1]'(by rw [fput_len]; omega) = k := by simp [fput_form]
  rw [e0] at f0
  rw [e1] at f1
  simp only [u8] at f0 f1
  clear e0 e1 ho3 ho4
  subst hl3
  generalize str (fput k l) = s1 at *
  generalize str (fput k2 l2) = s2 at *
  generalize str l = s3 at *
  generalize str l2 = s4 at *
  have w8 : ((n + 8 : Nat) : Int) = (n : Int) + 8 := by omega
  clear h1 h2
  have HAL := Lib.hid hal
  clear hal
  go_wp2
  · go_ret
    have h : (k.toNat : Int) = (k2.toNat : Int) := by assumption
    have ha := HAL.out
    rw [h] at ha
    refine ⟨?_, b4⟩
    simpa using ha
  · go_ret
    have h : ¬ (k.toNat : Int) = (k2.toNat : Int) := by assumption
    have ha := HAL.out
    rw [show ((k.toNat : Int) == (k2.toNat : Int)) = false from beq_eq_false_iff_ne.2 h] at ha
    refine ⟨?_, b4⟩
    simpa using ha
end Go.Proofs.YtddcfgbembjbhaaDoor
