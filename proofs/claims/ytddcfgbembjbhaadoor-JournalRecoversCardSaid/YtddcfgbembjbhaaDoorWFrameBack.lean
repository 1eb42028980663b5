/- The law FrameBack, walked. -/
import Derived.Test.YtddcfgbembjbhaaDoorWFrameSpoilt
namespace Go.Proofs.YtddcfgbembjbhaaDoor
open Go.RowKit
set_option linter.unusedVariables false
/-- A frame, whatever stands ahead and behind, is read as it was. -/
theorem getAll_in (a : List UInt8) (k : UInt8) (l b : List UInt8) (n : Nat) (hn : a.length = n) (h : l.length ≤ 8192) : getAll (a ++ fput k l ++ b) (n : Int) = (k, l, (n : Int) + l.length + 8, 0) := by
  subst hn
  have hd : (a ++ fput k l ++ b).drop a.length = fput k l ++ b := by rw [List.append_assoc]; exact List.drop_left' rfl
  unfold getAll
  rw [if_neg (by simp only [List.length_append]; omega), Int.toNat_natCast, hd]
  unfold getK getB getN
  rw [getE_put k l b h, if_pos rfl, if_pos rfl, if_pos rfl, byteAt_put, body_put k l b h, num2_put k l b h]
theorem getAll_ok {l : List UInt8} (h : getE l = 0) : getAll l 0 = (byteAt l 1, (l.drop 4).take (num2 l), ((num2 l + 8 : Nat) : Int), 0) := by
  unfold getAll
  rw [if_neg (by omega), Int.toNat_zero, List.drop_zero]
  unfold getK getB getN
  rw [h, if_pos rfl, if_pos rfl, if_pos rfl]
  simp
theorem getAll_no {l : List UInt8} (h : getE l ≠ 0) : getAll l 0 = (0, [], 0, getE l) := getAll_err (i := 0) (Nat.zero_le _) (by rw [List.drop_zero]) h
theorem below_grown {w0 w w' : World} {base n c : Nat} {A : Option Addr} {l : List UInt8} (hb : Below base w0 w) (hs : base ≤ w.heap.size) (ho : OwnB w base A n c l) (hg : w.grownBy w' (A.map (·.block))) : Below base w0 w' :=
  hb.grown hg hs fun k hk => by
    rcases ho.form with ⟨rfl, _⟩ | ⟨g, rfl, hgb, _⟩
    · cases hk
    · cases hk; exact hgb
set_option maxRecDepth 100000 in
set_option maxHeartbeats 1000000 in
theorem walkFrameBack (w : World) (hw : 0 < w.heap.size) (ht : Four w) (A1 : Option Addr) (n1 c1 : Nat) (l1 : List UInt8) (hr1 : BytesAt w w.heap.size A1 n1 l1) (hc1 : n1 ≤ c1) (hn1 : c1 ≤ 140737488351232)
    (x : Int) (hx : 0 ≤ x ∧ x ≤ 255) (A : Option Addr) (n c : Nat) (l : List UInt8) (hr : BytesAt w w.heap.size A n l) (hc : n ≤ c) (hn : c ≤ 140737488351232)
    (A3 : Option Addr) (n3 c3 : Nat) (l3 : List UInt8) (hr3 : BytesAt w w.heap.size A3 n3 l3) (hc3 : n3 ≤ c3) (hn3 : c3 ≤ 140737488351232) :
    Calls Tryd.prog 14 #[.slice A1 n1 c1, .int .u8 x, .slice A n c, .slice A3 n3 c3] w fun e w' => e = .returned (.bool true) ∧ Below w.heap.size w w' := by
  obtain ⟨k, rfl⟩ : ∃ k : UInt8, x = (k.toNat : Int) := ⟨UInt8.ofNat x.toNat, by simp; omega⟩
  have hl := hr.1
  have HL1 := Lib.hid hr1.1
  have HL3 := Lib.hid hr3.1
  have HR := Lib.hid hr
  have HR1 := Lib.hid hr1
  have HR3 := Lib.hid hr3
  clear hr hr1 hr3
  by_cases h1 : 8192 < n
  · have he : putE l = 2 := putE_no (by omega)
    clear hl
    go_enter Tryd.func14, Tryd.ntmps14
    go_wp2_with fail
    refine (head03 w hw ht).mono ?_
    rintro e w1 ⟨rfl, b1⟩
    have hs1 := b1.size
    go_wp2_with fail
    refine (framePut k A n c l w.heap.size w1 (by omega) (ht.below b1 hw) (HR.out.below b1) hs1 (by omega)).mono ?_
    rintro e w3 ⟨A4, n4, c4, rfl, ho4, hb4⟩
    have HO4 := Lib.hid ho4
    have b4 := b1.trans (hb4.mono hs1)
    clear ho4 hb4
    rw [he]
    go_wp2
    go_ret
    exact ⟨by simp; omega, b4⟩
  have he : Hid (putE l = 0) := Lib.hid (putE_ok (by omega))
  have hf : Hid (putB k l = fput k l) := Lib.hid (putB_ok (by omega))
  by_cases h2 : 100000 < n1 ∨ 100000 < n3
  · have HL := Lib.hid hl
    clear hl
    go_enter Tryd.func14, Tryd.ntmps14
    go_wp2_with fail
    refine (head03 w hw ht).mono ?_
    rintro e w1 ⟨rfl, b1⟩
    have hs1 := b1.size
    go_wp2_with fail
    refine (framePut k A n c l w.heap.size w1 (by omega) (ht.below b1 hw) (HR.out.below b1) hs1 (by omega)).mono ?_
    rintro e w3 ⟨A4, n4, c4, rfl, ho4, hb4⟩
    have HO4 := Lib.hid ho4
    have b4 := b1.trans (hb4.mono hs1)
    clear ho4 hb4
    rw [he.out]
    by_cases h3 : 100000 < n1
    · clear h2
      go_wp2
      go_ret
      exact ⟨by simp; omega, b4⟩
    · have h3' : 100000 < n3 := by omega
      clear h2
      go_wp2
      go_ret
      exact ⟨by simp; omega, b4⟩
  have h3 : ¬ 100000 < n1 := by omega
  have h4 : ¬ 100000 < n3 := by omega
  clear h2
  have HG := Lib.hid (getAll_in l1 k l l3 n1 HL1.out (by omega))
  have HL := Lib.hid hl
  clear hl
  go_enter Tryd.func14, Tryd.ntmps14
  go_wp2_with fail
  refine (head03 w hw ht).mono ?_
  rintro e w1 ⟨rfl, b1⟩
  have hs1 := b1.size
  go_wp2_with fail
  refine (framePut k A n c l w.heap.size w1 (by omega) (ht.below b1 hw) (HR.out.below b1) hs1 (by omega)).mono ?_
  rintro e w4 ⟨A4, n4, c4, rfl, ho4, hb4⟩
  rw [he.out]
  rw [hf.out] at ho4
  have b4 := b1.trans (hb4.mono hs1)
  have hs4 := b4.size
  obtain rfl : n4 = n + 8 := by have := ho4.len; rw [fput_len, HL.out] at this; omega
  have e5 := OwnB.empty w4 w4.heap.size w4.heap.size rfl (Nat.le_refl _)
  have b5 := b4.alloc hs4 (.cells #[] 5)
  have bb5 := (Below.refl w4.heap.size w4).alloc (Nat.le_refl _) (.cells #[] 5)
  have r1 := HR1.out.below b5
  have HO4 := Lib.hid ho4
  have HE5 := Lib.hid e5
  have HR5 := Lib.hid r1
  have HB5 := Lib.hid bb5
  clear hb4 ho4 e5 r1 bb5 b5
  go_wp2_with (first
    | (at_builtin; refine wpList_append_bytes rfl (.tmp 46) (.tmp 47) rfl rfl HE5.out rfl HR5.out (by omega) (by simp) ?_; intro A6 c6 w6 ho6 hg6 hat6; simp only [Nat.zero_add, List.nil_append] at ho6; have hb6 : Below w4.heap.size w4 w6 := HB5.out.grown hg6 (by simp) (by intro k hk; simp at hk; omega); have H6 := Lib.hid ho6; have B6 := Lib.hid hb6; clear ho6 hg6 hat6 hb6)
    | (at_builtin; refine wpList_append_bytes rfl (.tmp 48) (.tmp 49) rfl rfl H6.out rfl (HO4.out.bytes.below B6.out) (by omega) B6.out.size ?_; intro A7 c7 w7 ho7 hg7 hat7; have B7 := Lib.hid (below_grown B6.out B6.out.size H6.out hg7); have H7 := Lib.hid ho7; clear ho7 hg7 hat7)
    | (at_builtin; refine wpList_append_bytes rfl (.tmp 50) (.tmp 51) rfl rfl H7.out rfl (HR3.out.below (b4.trans (B7.out.mono hs4))) (by omega) B7.out.size ?_; intro A8 c8 w8 ho8 hg8 hat8; have B8 := Lib.hid (below_grown B7.out B7.out.size H7.out hg8); have H8 := Lib.hid ho8; clear ho8 hg8 hat8))
  have b8 := b4.trans (B8.out.mono hs4)
  have hs8 := b8.size
  refine (frameGet _ _ c8 _ n1 w8.heap.size w8 (by omega) (ht.below b8 hw) H8.out.bytes (Nat.le_refl _) (by omega) H8.out.cap).mono ?_
  rintro e w9 ⟨A9, n9, c9, rfl, ho9, hb9⟩
  rw [HG.out, HL.out]
  rw [HG.out] at ho9
  have b9 := b8.trans (hb9.mono hs8)
  have hs9 := b9.size
  obtain rfl : n9 = n := by have := ho9.len; rw [HL.out] at this; omega
  have hcv9 := conv_str ho9.bytes c9
  have hcvl := conv_str (HR.out.below b9) c
  clear ho9 hb9
  generalize str l = sl at *
  have i1 : ((n1 + (n9 + 8) + n3 : Nat) : Int) = (n1 : Int) + n9 + 8 + n3 := by omega
  go_wp2_with fail
  refine (frameGet A3 n3 c3 l3 0 w.heap.size w9 (by omega) (ht.below b9 hw) (HR3.out.below b9) hs9 (by omega) hc3).mono ?_
  rintro e w10 ⟨A10, n10, c10, rfl, ho10, hb10⟩
  have b10 := b9.trans (hb10.mono hs9)
  have hs10 := b10.size
  by_cases hE : getE l3 = 0
  rotate_left
  · rw [getAll_no hE]
    have hEb : (getE l3 == 0) = false := by simpa using hE
    have hEn : (getE l3 != 0) = true := by simpa using hE
    generalize getE l3 = E at *
    clear ho10 hb10 hE hcv9 hcvl
    go_wp2
    go_ret
    exact ⟨by simp, b10⟩
  obtain ⟨hpre, hlen⟩ := get_put hE
  obtain ⟨_, _, _, hN, hNl, _⟩ := getE_split hE
  rw [getAll_ok hE] at ho10 ⊢
  obtain ⟨b3, o3, rfl, _⟩ := HR3.out.some_of (by rw [← HL3.out]; omega)
  have hNl3 : num2 l3 + 8 ≤ n3 := by rw [← HL3.out]; exact hNl
  have hPE := putE_ok (l := (l3.drop 4).take (num2 l3)) (by omega)
  have hPB := putB_ok (k := byteAt l3 1) (l := (l3.drop 4).take (num2 l3)) (by omega)
  have hfl : (fput (byteAt l3 1) ((l3.drop 4).take (num2 l3))).length = num2 l3 + 8 := by rw [fput_len, hlen]
  have htk : fput (byteAt l3 1) ((l3.drop 4).take (num2 l3)) = l3.take (num2 l3 + 8) := by
    have := congrArg (List.take (num2 l3 + 8)) hpre
    rw [List.take_left' hfl] at this
    exact this.symm
  simp only at ho10
  have hn10 : n10 = num2 l3 := by have := ho10.len; rw [hlen] at this; omega
  have HPE := Lib.hid hPE
  have HPB := Lib.hid hPB
  have HTK := Lib.hid htk
  have HFL := Lib.hid hfl
  generalize (l3.drop 4).take (num2 l3) = body at *
  generalize num2 l3 = N at *
  generalize byteAt l3 1 = K at *
  subst hn10
  generalize hNN : n10 + 8 = NN at *
  have HNN := Lib.hid hNN
  have hNN8 : n10 + 8 ≤ NN := by omega
  clear hNN
  have HO10 := Lib.hid ho10
  clear hE hpre hlen hN hNl hPE hPB hfl htk ho10 hb10 hcv9 hcvl
  go_wp2_with fail
  refine (framePut K A10 n10 c10 body w10.heap.size w10 (by omega) (ht.below b10 hw) HO10.out.bytes (Nat.le_refl _) (by omega)).mono ?_
  rintro e w11 ⟨A11, n11, c11, rfl, ho11, hb11⟩
  rw [HPE.out]
  rw [HPB.out] at ho11
  have b11 := b10.trans (hb11.mono hs10)
  obtain rfl : n11 = NN := by have := ho11.len; rw [HFL.out] at this; omega
  rw [HTK.out] at ho11
  have hcv1 := conv_strs ho11.bytes c11
  have hcv2 := conv_strs ((HR3.out.below b11).take hNl3) c3
  have i2 : ((n11 : Nat) : Int) ≤ (n3 : Int) := by omega
  have i3 : ((n11 : Nat) : Int).toNat = n11 := by omega
  have i4 : (0 : Int) ≤ ((n11 : Nat) : Int) := by omega
  have i5 : ((n11 : Nat) : Int) ≤ (c3 : Int) := by omega
  generalize str (l3.take n11) = s3 at *
  have HO11 := Lib.hid ho11
  clear ho11 hb11
  go_wp2
  go_quiet (fail)
  go_wp2
  go_ret
  exact ⟨by simp, below_draws b11 _⟩
end Go.Proofs.YtddcfgbembjbhaaDoor
