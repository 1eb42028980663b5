/- Frames: numbers, copies. -/
import Derived.Test.YtddcfgbembjbhaaDoorFrame
import Derived.Test.YtddcfgbembjbhaaDoorWCrcThree
namespace Go.Proofs.YtddcfgbembjbhaaDoor
open Go.RowKit
set_option linter.unusedVariables false

/-- What bytes are, the highest first. -/
def numOf (l : List UInt8) : Nat := l.foldl (fun a b => a * 256 + b.toNat) 0
theorem numOf_snoc (l : List UInt8) (b : UInt8) : numOf (l ++ [b]) = numOf l * 256 + b.toNat := by simp [numOf, List.foldl_append]
theorem numOf_aux : ∀ (l : List UInt8) (a : Nat), l.foldl (fun a b => a * 256 + b.toNat) a < (a + 1) * 256 ^ l.length
  | [], a => by simp
  | b :: l, a => by
    have h := numOf_aux l (a * 256 + b.toNat)
    have hb := b.toNat_lt
    have h2 : (a * 256 + b.toNat + 1) * 256 ^ l.length ≤ ((a + 1) * 256) * 256 ^ l.length := Nat.mul_le_mul_right _ (by omega)
    rw [List.foldl_cons, List.length_cons, Nat.pow_succ, Nat.mul_comm (256 ^ l.length) 256, ← Nat.mul_assoc]
    omega
theorem numOf_lt (l : List UInt8) : numOf l < 256 ^ l.length := by
  have := numOf_aux l 0
  simpa [numOf] using this
theorem numOf_take (l : List UInt8) (k : Nat) (h : k < l.length) : numOf (l.take (k + 1)) = numOf (l.take k) * 256 + (l.getD k 0).toNat := by
  rw [List.take_add_one, List.getElem?_eq_getElem h, Option.toList_some, numOf_snoc]
  simp [List.getD, List.getElem?_eq_getElem h]
set_option maxRecDepth 100000 in
set_option maxHeartbeats 1000000 in
theorem number (A : Option Addr) (n c : Nat) (l : List UInt8) (B : Nat) (w : World) (hr : BytesAt w B A n l) (hn : n ≤ 4) :
    Calls Tryd.prog 73 #[.slice A n c] w fun e w' => e = .returned (.int .i64 (numOf l : Int)) ∧ w = w' := by
  have hl := hr.1
  have HR := Lib.hid hr
  have HL := Lib.hid hl
  clear hr hl
  go_enter Tryd.func73, Tryd.ntmps73
  go_wp2
  go_loop [3, 8] (fun r i => ∃ k : Nat, k ≤ n ∧ r = .int .i64 (numOf (l.take k) : Int) ∧ i = .int .i64 k) (fun _ i => n - (intOf i).toNat)
  case atStart => exact ⟨0, by omega, rfl, rfl⟩
  case round =>
    obtain ⟨k, hk, rfl, rfl⟩ := hrel
    by_cases hkn : k < n
    · obtain ⟨b, o, rfl, _, hc⟩ := HR.out.cell k hkn
      have hs := numOf_take l k (by have := HL.out; omega)
      have hb := numOf_lt (l.take k)
      have hlt : numOf (l.take k) < 16777216 := by
        have h1 : (l.take k).length ≤ 3 := by rw [List.length_take]; omega
        have h2 : 256 ^ (l.take k).length ≤ 256 ^ 3 := Nat.pow_le_pow_right (by omega) h1
        omega
      have hx := (l.getD k 0).toNat_lt
      have HS := Lib.hid hs
      clear hs hb
      generalize numOf (l.take k) = a at *
      generalize l.getD k 0 = x at *
      go_wp2
      go_round
      case rel => exact ⟨k + 1, by omega, by rw [HS.out]; go_num, by go_num⟩
      case measure => simp [intOf]; omega
    · obtain rfl : k = n := by omega
      go_wp2
      go_ret
      exact ⟨by rw [← HL.out, List.take_length]; rfl, rfl⟩
end Go.Proofs.YtddcfgbembjbhaaDoor
