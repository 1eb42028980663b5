/- The law CrcBurst, walked. -/
import Derived.Test.YtddcfgbembjbhaaDoorCrcHead
import Derived.Test.YtddcfgbembjbhaaDoorOwn
import Derived.Test.YtddcfgbembjbhaaDoorCrcWord
namespace Go.Proofs.YtddcfgbembjbhaaDoor
open Go.RowKit
set_option linter.unusedVariables false
/-- The bytes behind k rounds. -/
def burst (l : List UInt8) (i y : Nat) : Nat → List UInt8
  | 0 => l
  | k + 1 => (burst l i y k).set (i + k) ((burst l i y k).getD (i + k) 0 ^^^ byteOf y k)
theorem burst_len (l : List UInt8) (i y k : Nat) : (burst l i y k).length = l.length := by
  induction k with
  | zero => rfl
  | succ k ih => simp [burst, ih]
theorem burst_four (l : List UInt8) (i y : Nat) (h : i + 4 ≤ l.length) : ∃ p q a b c d, l = p ++ [a, b, c, d] ++ q ∧ burst l i y 4 = p ++ [a ^^^ byteOf y 0, b ^^^ byteOf y 1, c ^^^ byteOf y 2, d ^^^ byteOf y 3] ++ q := by
  have hp : (l.take i).length = i := by simp; omega
  obtain ⟨a, b, c, d, q, hq⟩ : ∃ a b c d q, l.drop i = a :: b :: c :: d :: q := by
    match hd : l.drop i, (show 4 ≤ (l.drop i).length by simp; omega) with
    | a :: b :: c :: d :: q, _ => exact ⟨a, b, c, d, q, rfl⟩
  have hl : l = l.take i ++ a :: b :: c :: d :: q := by rw [← hq, List.take_append_drop]
  generalize l.take i = p at *
  subst hl
  subst hp
  refine ⟨p, q, a, b, c, d, by simp, ?_⟩
  simp [burst, List.set]
theorem word_xor (a b c d x y z u : UInt8) : Crc.word (a ^^^ x) (b ^^^ y) (c ^^^ z) (d ^^^ u) = Crc.word a b c d ^^^ Crc.word x y z u := by
  have hw : ∀ p q : UInt8, Crc.wide (p ^^^ q) = Crc.wide p ^^^ Crc.wide q := by
    intro p q
    unfold Crc.wide
    apply BitVec.eq_of_toNat_eq
    have hp := p.toNat_lt
    have hq := q.toNat_lt
    have : p.toNat ^^^ q.toNat < 2 ^ 32 := Nat.xor_lt_two_pow (by omega) (by omega)
    simp only [BitVec.toNat_xor, BitVec.toNat_ofNat, UInt8.toNat_xor]
    rw [Nat.mod_eq_of_lt this, Nat.mod_eq_of_lt (by omega : p.toNat < 2 ^ 32), Nat.mod_eq_of_lt (by omega : q.toNat < 2 ^ 32)]
  have hs : ∀ (p q : BitVec 32) k, (p ^^^ q) <<< k = (p <<< k) ^^^ (q <<< k) := fun p q k => BitVec.shiftLeft_xor_distrib p q k
  unfold Crc.word
  rw [hw, hw, hw, hw, hs, hs, hs]
  have key : ∀ A X B Y C Z D U : BitVec 32, (A ^^^ X) ^^^ (B ^^^ Y) ^^^ (C ^^^ Z) ^^^ (D ^^^ U) = (A ^^^ B ^^^ C ^^^ D) ^^^ (X ^^^ Y ^^^ Z ^^^ U) := by intros; ac_rfl
  exact key _ _ _ _ _ _ _ _
theorem burst_ne (s : BitVec 32) (l : List UInt8) (i y : Nat) (h : i + 4 ≤ l.length) (hy : y < 4294967296) (hy0 : y ≠ 0) : Crc.add s (burst l i y 4) ≠ Crc.add s l := by
  obtain ⟨p, q, a, b, c, d, hl, hb⟩ := burst_four l i y h
  rw [hb]
  conv => rhs; rw [hl]
  apply Crc.add_four_ne
  rw [word_xor]
  intro e
  have hw := word_of (BitVec.ofNat 32 y)
  have e1 : (BitVec.ofNat 32 y).toNat = y := by simp; omega
  rw [e1] at hw
  rw [hw] at e
  have : Crc.word a b c d ^^^ BitVec.ofNat 32 y = Crc.word a b c d ^^^ 0 := by simpa using e
  have := Crc.xor_inj this
  have := congrArg BitVec.toNat this
  rw [e1] at this
  exact hy0 (by simpa using this)

set_option maxRecDepth 100000 in
set_option maxHeartbeats 1000000 in
theorem walkCrcBurst (w : World) (hw : 0 < w.heap.size) (ht : Four w) (A : Option Addr) (n c : Nat) (l : List UInt8) (hr : BytesAt w w.heap.size A n l) (hc : n ≤ c) (hn : c ≤ 140737488351232)
    (x : Int) (hx : 0 ≤ x ∧ x ≤ 65535) (y : Int) (hy : 0 ≤ y ∧ y ≤ 4294967295) :
    Calls Tryd.prog 7 #[.slice A n c, .int .u16 x, .int .u32 y] w fun e w' => e = .returned (.bool true) ∧ Below w.heap.size w w' := by
  obtain ⟨x, rfl⟩ := Int.eq_ofNat_of_zero_le hx.1
  obtain ⟨y, rfl⟩ := Int.eq_ofNat_of_zero_le hy.1
  by_cases hn0 : n < 4
  · go_enter Tryd.func7, Tryd.ntmps7
    go_wp2_with fail
    refine (head02 w hw ht).mono ?_
    rintro e w1 ⟨rfl, b1⟩
    go_wp2
    go_ret
    exact ⟨rfl, b1⟩
  by_cases hy0 : y = 0
  · subst hy0
    go_enter Tryd.func7, Tryd.ntmps7
    go_wp2_with fail
    refine (head02 w hw ht).mono ?_
    rintro e w1 ⟨rfl, b1⟩
    go_wp2
    go_ret
    exact ⟨rfl, b1⟩
  have hyb : ((y : Int) == 0) = false := by simp; omega
  obtain ⟨i, hi, hilt⟩ : ∃ i : Nat, (x : Int) % ((n : Int) - 3) = (i : Int) ∧ i + 4 ≤ n := by
    have h1 : ((n : Int) - 3) = ((n - 3 : Nat) : Int) := by omega
    have h2 : x % (n - 3) < n - 3 := Nat.mod_lt _ (by omega)
    exact ⟨x % (n - 3), by rw [h1]; omega, by omega⟩
  have HN := Lib.hid (burst_ne 0 l i y (by rw [hr.1]; omega) (by omega) hy0)
  go_enter Tryd.func7, Tryd.ntmps7
  go_wp2_with fail
  refine (head02 w hw ht).mono ?_
  rintro e w1 ⟨rfl, b1⟩
  have hs1 := b1.size
  have hr1 := hr.below b1
  have hown := OwnB.empty w1 w.heap.size _ rfl hs1
  have hr2 := hr1.below ((Below.refl w.heap.size w1).alloc hs1 (.cells #[] 5))
  go_wp2_with (at_builtin; refine wpList_append_bytes rfl (.tmp 20) (.tmp 21) rfl rfl hown rfl hr2 (by omega) (by simp; omega) ?_; intro A' c' w2 hown2 hg2 hat2; simp only [Nat.zero_add, List.nil_append] at hown2; obtain ⟨g, rfl, hbg, hgs, hnc⟩ := hown2.form_pos (by omega))
  have b2 := (b1.alloc hs1 (.cells #[] 5)).grown hg2 (by simp; omega) (by intro k hk; simp at hk; omega)
  go_loopw [10] (fun s wr => ∃ k : Nat, k ≤ 4 ∧ s = .int .i64 k ∧ OwnB wr w.heap.size (some ⟨g, 0, none⟩) n c' (burst l i y k) ∧ Below w.heap.size w wr) (fun s _ => 4 - (intOf s).toNat)
  case atStart => exact ⟨0, by omega, rfl, hown2, b2⟩
  case round =>
    obtain ⟨k, hk, rfl, ho, hb⟩ := hrel
    clear hown2 hg2 hat2 hr1 hr2 hown
    by_cases hk4 : k < 4
    · have hlk : (burst l i y k).length = n := by rw [burst_len, hr.1]
      obtain ⟨v, hv⟩ : ∃ v, v = (burst l i y k).getD (i + k) 0 := ⟨_, rfl⟩
      have hik : i + k < (burst l i y k).length := by omega
      have hci := ho.cell (i + k) hik
      have hfi := ho.frozen (i + k)
      have hvv : (burst l i y k)[i + k] = v := by rw [hv, List.getD_eq_getElem?_getD, List.getElem?_eq_getElem hik]; rfl
      rw [hvv] at hci
      unfold u8 at hci
      have hst := ho.set (i + k) (by omega) (v ^^^ byteOf y k)
      have HB : Hid (burst l i y (k + 1) = (burst l i y k).set (i + k) (v ^^^ byteOf y k)) := by rw [hv]; rfl
      have e1 : bits .xor .u8 (v.toNat : Int) ((byteOf y k).toNat : Int) = ((v ^^^ byteOf y k).toNat : Int) := by rw [u8_xor_nat _ _ v.toNat_lt (byteOf y k).toNat_lt, UInt8.toNat_xor]
      clear hvv hv hik hlk
      generalize burst l i y k = L at *
      rcases (show k = 0 ∨ k = 1 ∨ k = 2 ∨ k = 3 by omega) with rfl | rfl | rfl | rfl
      · have e2 : (y : Int) % 256 = ((byteOf y 0).toNat : Int) := by rw [byteOf_toNat]; omega
        rw [Nat.add_zero] at hci hfi hst HB
        generalize byteOf y 0 = z at *
        generalize v ^^^ z = vz at *
        rw [show ((0 : Nat) : Int) = 0 from rfl]
        go_wp2
        go_region
        go_wp2
        go_roundw
        case rel => exact ⟨1, by omega, rfl, by rw [HB.out]; exact hst.drew, hb.drew.setCell (p := ⟨g, _, none⟩) hbg _⟩
        case measure => simp [intOf]
      · have e2 : (y : Int) / 256 % 256 = ((byteOf y 1).toNat : Int) := by rw [byteOf_toNat]; omega
        generalize byteOf y 1 = z at *
        generalize v ^^^ z = vz at *
        rw [show ((1 : Nat) : Int) = 1 from rfl]
        go_wp2
        go_region
        go_wp2
        go_roundw
        case rel => exact ⟨2, by omega, rfl, by rw [HB.out]; exact hst.drew, hb.drew.setCell (p := ⟨g, _, none⟩) hbg _⟩
        case measure => simp [intOf]
      · have e2 : (y : Int) / 65536 % 256 = ((byteOf y 2).toNat : Int) := by rw [byteOf_toNat]; omega
        generalize byteOf y 2 = z at *
        generalize v ^^^ z = vz at *
        rw [show ((2 : Nat) : Int) = 2 from rfl]
        go_wp2
        go_region
        go_wp2
        go_roundw
        case rel => exact ⟨3, by omega, rfl, by rw [HB.out]; exact hst.drew, hb.drew.setCell (p := ⟨g, _, none⟩) hbg _⟩
        case measure => simp [intOf]
      · have e2 : (y : Int) / 16777216 = ((byteOf y 3).toNat : Int) := by rw [byteOf_toNat]; omega
        generalize byteOf y 3 = z at *
        generalize v ^^^ z = vz at *
        rw [show ((3 : Nat) : Int) = 3 from rfl]
        go_wp2
        go_region
        go_wp2
        go_roundw
        case rel => exact ⟨4, by omega, rfl, by rw [HB.out]; exact hst.drew, hb.drew.setCell (p := ⟨g, _, none⟩) hbg _⟩
        case measure => simp [intOf]
    · obtain rfl : k = 4 := by omega
      have ht2 := ht.below hb hw
      have hr2 := hr.below hb
      have hs2 := hb.size
      go_wp2_with fail
      refine (crcSum _ n c' _ _ _ ho.bytes (by omega) ht2).mono ?_
      rintro e w' ⟨rfl, rfl⟩
      go_wp2_with fail
      refine (crcSum _ n c l _ _ hr2 (by omega) ht2).mono ?_
      rintro e w' ⟨rfl, rfl⟩
      have HE : (((Crc.add 0 (burst l i y 4)).toNat : Int) == ((Crc.add 0 l).toNat : Int)) = false := by
        rw [beq_eq_false_iff_ne]
        intro h
        exact HN.out (BitVec.eq_of_toNat_eq (by omega))
      clear ho
      generalize ((Crc.add 0 (burst l i y 4)).toNat : Int) = X1 at *
      generalize ((Crc.add 0 l).toNat : Int) = X2 at *
      have HE' : (X1 != X2) = true := by rw [bne, HE]; rfl
      go_wp2
      go_ret
      exact ⟨rfl, hb⟩
end Go.Proofs.YtddcfgbembjbhaaDoor
