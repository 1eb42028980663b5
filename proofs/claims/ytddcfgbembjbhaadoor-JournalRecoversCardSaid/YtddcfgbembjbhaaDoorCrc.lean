/- The check sums of the program and of the document, walked: both are 'Crc.add'. -/
import Derived.Test.YtddcfgbembjbhaaDoorProg
import Derived.Test.YtddcfgbembjbhaaDoorCrcMath
import Derived.Test.YtddcfgbembjbhaaDoorMem
import Derived.WalkLawsBesides
namespace Go.Proofs.YtddcfgbembjbhaaDoor
open Go.RowKit
set_option linter.unusedVariables false

/-- The table of sixteen lies in block 0. -/
def Four (w : World) : Prop := ∀ i, i < 16 → w.cell? ⟨0, i, none⟩ = some (.int .u32 ((Crc.four i).toNat : Int))
theorem Four.below {B : Nat} {w w' : World} (h : Four w) (hb : Below B w w') (hB : 0 < B) : Four w' := fun i hi => (hb.cell (p := ⟨0, i, none⟩) hB).trans (h i hi)

theorem bits_not (s : BitVec 32) : bits .xor .u32 IntKind.u32.max (s.toNat : Int) = ((~~~ s).toNat : Int) := by
  have e : IntKind.u32.max = ((4294967295 : Nat) : Int) := by decide
  rw [e, u32_xor_nat _ _ (by omega) s.isLt]
  have : (4294967295 : Nat) = (BitVec.allOnes 32).toNat := by decide
  rw [this, ← BitVec.toNat_xor, BitVec.allOnes_xor]
theorem bits_wide (r : BitVec 32) (b : UInt8) : bits .xor .u32 (r.toNat : Int) (b.toNat : Int) = ((r ^^^ Crc.wide b).toNat : Int) := by
  have hb := b.toNat_lt
  rw [u32_xor_nat _ _ r.isLt (by omega), BitVec.toNat_xor, Crc.wide, BitVec.toNat_ofNat, Nat.mod_eq_of_lt (by omega)]
theorem bits_low4 (r : BitVec 32) : bits .and .u32 (r.toNat : Int) 15 = ((r.toNat % 16 : Nat) : Int) := by
  have := u32_and_nat r.toNat 15 r.isLt (by omega)
  rw [show ((15 : Nat) : Int) = 15 from rfl] at this
  rw [this]
  congr 1
  exact Nat.and_two_pow_sub_one_eq_mod r.toNat 4
theorem bits_table (r : BitVec 32) : bits .xor .u32 ((r.toNat : Int) / 16) ((Crc.four (r.toNat % 16)).toNat : Int) = ((Crc.f4 r).toNat : Int) := by
  have hr := r.isLt
  have e : ((r.toNat : Int) / 16) = ((r.toNat / 16 : Nat) : Int) := by omega
  rw [e, u32_xor_nat _ _ (by omega) (Crc.four _).isLt, Crc.f4_table, BitVec.toNat_xor, BitVec.toNat_ushiftRight, Nat.shiftRight_eq_div_pow]
theorem reg_snoc (r : BitVec 32) (l : List UInt8) (k : Nat) (h : k < l.length) : Crc.reg r (l.take (k + 1)) = Crc.step (Crc.reg r (l.take k)) l[k] := by
  rw [List.take_succ_eq_append_getElem h, Crc.reg_append]
  rfl

set_option maxHeartbeats 400000 in
theorem crcAdd (x : Int) (s : BitVec 32) (A : Option Addr) (n c : Nat) (l : List UInt8) (B : Nat) (w : World) (hx : x = (s.toNat : Int)) (hr : BytesAt w B A n l) (hn : n ≤ 9223372036854775807) (ht : Four w) :
    Calls Tryd.prog 32 #[.int .u32 x, .slice A n c] w fun e w' => e = .returned (.int .u32 ((Crc.add s l).toNat : Int)) ∧ w = w' := by
  subst hx
  have e0 := bits_not s
  have HA := Lib.hid (show Crc.add s l = ~~~ Crc.reg (~~~ s) l from rfl)
  generalize ~~~ s = S at *
  go_enter Tryd.func32, Tryd.ntmps32
  go_wp2
  go_loop [5, 12] (fun r i => ∃ k : Nat, k ≤ n ∧ r = .int .u32 ((Crc.reg S (l.take k)).toNat : Int) ∧ i = .int .i64 k) (fun _ i => n - (intOf i).toNat)
  case atStart => exact ⟨0, Nat.zero_le _, by simp [Crc.reg], rfl⟩
  case round =>
    obtain ⟨k, hk, rfl, rfl⟩ := hrel
    by_cases hlt : k < n
    · obtain ⟨b, o, rfl, _, hc⟩ := hr.2 (by omega)
      have hl := hr.1
      have hsn := Lib.hid (reg_snoc S l k (by omega))
      have hck := hc k (by omega)
      generalize Crc.reg S (l.take k) = R at *
      generalize hbe : l[k] = v at *
      have hv := v.toNat_lt
      have e1 : (v.toNat : Int) % 4294967296 = v.toNat := by omega
      have e2 := bits_wide R v
      have hst := Lib.hid (show Crc.step R v = Crc.f4 (Crc.f4 (R ^^^ Crc.wide v)) from rfl)
      generalize R ^^^ Crc.wide v = R1 at *
      have e3 := bits_low4 R1
      have e4 := bits_table R1
      have hi3 : R1.toNat % 16 < 16 := by omega
      have c3 := ht _ hi3
      generalize R1.toNat % 16 = i3 at *
      generalize Crc.f4 R1 = R2 at *
      have e5 := bits_low4 R2
      have e6 := bits_table R2
      have hi5 : R2.toNat % 16 < 16 := by omega
      have c5 := ht _ hi5
      generalize R2.toNat % 16 = i5 at *
      clear hc hr ht hbe hl
      go_wp2
      go_round
      case rel => exact ⟨k + 1, by omega, by rw [hsn.out, hst.out], by go_num⟩
      case measure => simp [intOf]; omega
    · have hl := hr.1
      have ek : l.take k = l := List.take_of_length_le (by omega)
      rw [ek] at *
      generalize Crc.reg S l = R at *
      have eR := bits_not R
      generalize ~~~ R = R' at *
      go_wp2
      go_ret
      exact ⟨by rw [HA.out]; rfl, rfl⟩

set_option maxHeartbeats 400000 in
theorem crcSum (A : Option Addr) (n c : Nat) (l : List UInt8) (B : Nat) (w : World) (hr : BytesAt w B A n l) (hn : n ≤ 9223372036854775807) (ht : Four w) :
    Calls Tryd.prog 30 #[.slice A n c] w fun e w' => e = .returned (.int .u32 ((Crc.add 0 l).toNat : Int)) ∧ w = w' := by
  go_enter Tryd.func30, Tryd.ntmps30
  go_wp2_with (go_at_call 32; refine (crcAdd _ 0 A n c l B _ (by rfl) hr hn ht).mono ?_; rintro e w' ⟨rfl, rfl⟩)
  go_ret
  exact ⟨rfl, rfl⟩

/-! The document's: bit by bit. -/
def fN : Nat → BitVec 32 → BitVec 32
  | 0, r => r
  | k + 1, r => Crc.f (fN k r)
theorem fN_8 (r : BitVec 32) : fN 8 r = Crc.f8 r := rfl
theorem bits_low1 (r : BitVec 32) : bits .and .u32 (r.toNat : Int) 1 = ((r.toNat % 2 : Nat) : Int) := by
  have := u32_and_nat r.toNat 1 r.isLt (by omega)
  rw [show ((1 : Nat) : Int) = 1 from rfl] at this
  rw [this]
  congr 1
  exact Nat.and_two_pow_sub_one_eq_mod r.toNat 1
theorem f_odd (r : BitVec 32) (h : r.toNat % 2 = 1) : bits .xor .u32 ((r.toNat : Int) / 2) 3988292384 = ((Crc.f r).toNat : Int) := by
  have hr := r.isLt
  have e : ((r.toNat : Int) / 2) = ((r.toNat / 2 : Nat) : Int) := by omega
  have := u32_xor_nat (r.toNat / 2) 3988292384 (by omega) (by omega)
  rw [show ((3988292384 : Nat) : Int) = 3988292384 from rfl] at this
  rw [e, this, Crc.f]
  have hb : r.getLsbD 0 = true := by rw [BitVec.getLsbD, Nat.testBit_zero, h]; rfl
  rw [if_pos hb, BitVec.toNat_xor, BitVec.toNat_ushiftRight, Nat.shiftRight_eq_div_pow]
  rfl
theorem f_even (r : BitVec 32) (h : r.toNat % 2 = 0) : ((r.toNat : Int) / 2) = ((Crc.f r).toNat : Int) := by
  have e : ((r.toNat : Int) / 2) = ((r.toNat / 2 : Nat) : Int) := by omega
  have hb : r.getLsbD 0 = false := by rw [BitVec.getLsbD, Nat.testBit_zero, h]; rfl
  rw [e, Crc.f_of_even _ hb, BitVec.toNat_ushiftRight, Nat.shiftRight_eq_div_pow]

set_option maxHeartbeats 800000 in
theorem refAdd (x : Int) (s : BitVec 32) (A : Option Addr) (n c : Nat) (l : List UInt8) (B : Nat) (w : World) (hx : x = (s.toNat : Int)) (hr : BytesAt w B A n l) (hn : n ≤ 9223372036854775807) :
    Calls Tryd.prog 33 #[.int .u32 x, .slice A n c] w fun e w' => e = .returned (.int .u32 ((Crc.add s l).toNat : Int)) ∧ w = w' := by
  subst hx
  have e0 := bits_not s
  have HA := Lib.hid (show Crc.add s l = ~~~ Crc.reg (~~~ s) l from rfl)
  generalize ~~~ s = S at *
  go_enter Tryd.func33, Tryd.ntmps33
  go_wp2
  go_loop [5, 6, 7, 8] (fun r i _ _ => ∃ k : Nat, k ≤ n ∧ r = .int .u32 ((Crc.reg S (l.take k)).toNat : Int) ∧ i = .int .i64 k) (fun _ i _ _ => n - (intOf i).toNat)
  case atStart => exact ⟨0, Nat.zero_le _, by simp [Crc.reg], rfl⟩
  case round =>
    obtain ⟨k, hk, rfl, rfl⟩ := hrel
    by_cases hlt : k < n
    · obtain ⟨b, o, rfl, _, hc⟩ := hr.2 (by omega)
      have hl := hr.1
      have hsn := Lib.hid (reg_snoc S l k (by omega))
      have hck := hc k (by omega)
      generalize Crc.reg S (l.take k) = R at *
      generalize hbe : l[k] = v at *
      have hv := v.toNat_lt
      have e1 : (v.toNat : Int) % 4294967296 = v.toNat := by omega
      have e2 := bits_wide R v
      have hst := Lib.hid (show Crc.step R v = fN 8 (R ^^^ Crc.wide v) from rfl)
      generalize R ^^^ Crc.wide v = R1 at *
      clear hc hr hbe hl
      go_wp2
      go_loop [5, 7, 8] (fun r i _ => ∃ m : Nat, m ≤ 8 ∧ r = .int .u32 ((fN m R1).toNat : Int) ∧ i = .int .i64 m) (fun _ i _ => 8 - (intOf i).toNat)
      case atStart => exact ⟨0, Nat.zero_le _, by simp [fN], rfl⟩
      case round =>
        obtain ⟨m, hm, rfl, rfl⟩ := hrel
        by_cases hlt : m < 8
        · have hfs := Lib.hid (show fN (m + 1) R1 = Crc.f (fN m R1) from rfl)
          generalize fN m R1 = Q at *
          have f1 := bits_low1 Q
          rcases Nat.mod_two_eq_zero_or_one Q.toNat with h0 | h1
          · have f2 := f_even Q h0
            rw [h0] at f1
            clear h0
            generalize Crc.f Q = Q' at *
            go_wp2
            go_round
            case rel => exact ⟨m + 1, by omega, by rw [hfs.out], by go_num⟩
            case measure => simp [intOf]; omega
          · have f2 := f_odd Q h1
            rw [h1] at f1
            clear h1
            generalize Crc.f Q = Q' at *
            go_wp2
            go_round
            case rel => exact ⟨m + 1, by omega, by rw [hfs.out], by go_num⟩
            case measure => simp [intOf]; omega
        · obtain rfl : m = 8 := by omega
          generalize fN 8 R1 = Q at *
          go_wp2
          go_round
          case rel => exact ⟨k + 1, by omega, by rw [hsn.out, hst.out], by go_num⟩
          case measure => simp [intOf]; omega
    · have hl := hr.1
      have ek : l.take k = l := List.take_of_length_le (by omega)
      rw [ek] at *
      generalize Crc.reg S l = R at *
      have eR := bits_not R
      generalize ~~~ R = R' at *
      go_wp2
      go_ret
      exact ⟨by rw [HA.out]; rfl, rfl⟩

set_option maxHeartbeats 400000 in
theorem refSum (A : Option Addr) (n c : Nat) (l : List UInt8) (B : Nat) (w : World) (hr : BytesAt w B A n l) (hn : n ≤ 9223372036854775807) :
    Calls Tryd.prog 31 #[.slice A n c] w fun e w' => e = .returned (.int .u32 ((Crc.add 0 l).toNat : Int)) ∧ w = w' := by
  go_enter Tryd.func31, Tryd.ntmps31
  go_wp2_with (go_at_call 33; refine (refAdd _ 0 A n c l B _ (by rfl) hr hn).mono ?_; rintro e w' ⟨rfl, rfl⟩)
  go_ret
  exact ⟨rfl, rfl⟩
end Go.Proofs.YtddcfgbembjbhaaDoor
