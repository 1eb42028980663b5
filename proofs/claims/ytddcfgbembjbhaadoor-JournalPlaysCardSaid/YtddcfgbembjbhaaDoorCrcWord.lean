/- A word's bytes. -/
import Derived.Test.YtddcfgbembjbhaaDoorCrcMath
namespace Go.Proofs.YtddcfgbembjbhaaDoor
/-- Byte k of a number. -/
def byteOf (x k : Nat) : UInt8 := UInt8.ofNat (x / 2 ^ (8 * k) % 256)
theorem byteOf_toNat (x k : Nat) : (byteOf x k).toNat = x / 2 ^ (8 * k) % 256 := by
  simp [byteOf]
theorem word_of (s : BitVec 32) : Crc.word (byteOf s.toNat 0) (byteOf s.toNat 1) (byteOf s.toNat 2) (byteOf s.toNat 3) = s := by
  have hw : ∀ k i, (Crc.wide (byteOf s.toNat k)).getLsbD i = (decide (i < 8) && s.getLsbD (i + 8 * k)) := by
    intro k i
    unfold Crc.wide
    rw [byteOf_toNat, BitVec.getLsbD_ofNat]
    have : s.toNat / 2 ^ (8 * k) % 256 = s.toNat / 2 ^ (8 * k) % 2 ^ 8 := rfl
    rw [this, Nat.testBit_mod_two_pow, Nat.testBit_div_two_pow]
    unfold BitVec.getLsbD
    by_cases h : i < 8
    · simp [h, show i < 32 from by omega]
    · simp [h]
  apply BitVec.eq_of_getLsbD_eq
  intro i hi
  unfold Crc.word
  simp only [BitVec.getLsbD_xor, BitVec.getLsbD_shiftLeft, hw]
  by_cases h0 : i < 8
  · simp [h0, hi, show i < 16 from by omega, show i < 24 from by omega]
  · by_cases h1 : i < 16
    · simp [h0, h1, hi, show i - 8 < 8 from by omega, show i < 24 from by omega, show i - 8 + 8 = i from by omega]
    · by_cases h2 : i < 24
      · simp [h0, h1, h2, hi, show ¬ i - 8 < 8 from by omega, show i - 16 < 8 from by omega, show i - 16 + 16 = i from by omega]
      · simp [h0, h1, h2, hi, show ¬ i - 8 < 8 from by omega, show ¬ i - 16 < 8 from by omega, show i - 24 < 8 from by omega, show i - 24 + 24 = i from by omega]

end Go.Proofs.YtddcfgbembjbhaaDoor
