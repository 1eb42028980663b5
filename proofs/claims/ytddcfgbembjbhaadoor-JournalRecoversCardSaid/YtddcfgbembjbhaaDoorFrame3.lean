/- Frames: bytes.Clone, Get. -/
import Derived.Test.YtddcfgbembjbhaaDoorFrame2
namespace Go.Proofs.YtddcfgbembjbhaaDoor
open Go.RowKit
set_option linter.unusedVariables false

def Copied (w : World) (n : Nat) (l : List UInt8) (e : Ending) (w' : World) : Prop := ∃ A c, e = .returned (.slice A n c) ∧ OwnB w' w.heap.size A n c l ∧ Below w.heap.size w w'
set_option maxHeartbeats 400000 in
theorem clone (A : Option Addr) (n c : Nat) (l : List UInt8) (B : Nat) (w : World) (hr : BytesAt w B A n l) (hB : B ≤ w.heap.size) (hn : n ≤ 140737488351232) :
    Calls Tryd.prog 74 #[.slice A n c] w (Copied w n l) := by
  have hl := hr.1
  rcases A with _ | a
  · have h0 : n = 0 := by
      rcases Nat.eq_zero_or_pos n with h | h
      · exact h
      · obtain ⟨b, o, e, _⟩ := hr.2 h
        cases e
    subst h0
    obtain rfl : l = [] := List.eq_nil_of_length_eq_zero hl
    have he := fun w => Lib.run_eql_slice_nil (P := Tryd.prog) w 23 5 none 0 c 0 0 Tryd.underlying23
    go_enter Tryd.func74, Tryd.ntmps74
    go_wp2
    go_ret
    exact ⟨none, 0, rfl, OwnB.nil _ _, Below.refl _ _⟩
  · have he := fun w => Lib.run_eql_slice_nil (P := Tryd.prog) w 23 5 (some a) n c 0 0 Tryd.underlying23
    go_enter Tryd.func74, Tryd.ntmps74
    have hrow := OwnB.empty w w.heap.size w.heap.size rfl (Nat.le_refl _)
    have b1 := (Below.refl w.heap.size w).alloc (Nat.le_refl _) (.cells #[] 5)
    have hb1 := hr.below (b1.mono hB)
    go_wp2_with (at_builtin; refine wpList_append_bytes rfl (.tmp 5) (.tmp 6) rfl rfl hrow rfl hb1 (by omega) (by simp) ?_; intro A2 c2 w2 hown2 hg2 hat2)
    go_ret
    simp only [Nat.zero_add, List.nil_append] at hown2
    exact ⟨A2, c2, by simp, hown2, b1.grown hg2 (by simp) (by intro k hk; simp at hk; omega)⟩

/-! ### A frame that is read -/
def byteAt (r : List UInt8) (i : Nat) : UInt8 := r.getD i 0
def num2 (r : List UInt8) : Nat := numOf ((r.drop 2).take 2)
def num4 (r : List UInt8) : Nat := numOf ((r.drop (4 + num2 r)).take 4)
def mid (r : List UInt8) : List UInt8 := (r.drop 1).take (3 + num2 r)
/-- The error, of what stands from the place on. -/
def getE (r : List UInt8) : Int :=
  if r.length = 0 then 31 else if byteAt r 0 ≠ 247 then 32 else if r.length < 8 then 31 else if 8192 < num2 r then 2 else if r.length < num2 r + 8 then 31 else if (Crc.add 0 (mid r)).toNat ≠ num4 r then 33 else 0
def getK (r : List UInt8) : UInt8 := if getE r = 0 then byteAt r 1 else 0
def getB (r : List UInt8) : List UInt8 := if getE r = 0 then (r.drop 4).take (num2 r) else []
def getN (r : List UInt8) (i : Int) : Int := if getE r = 0 then i + num2 r + 8 else 0
/-- What Get tells of 'l' at place i. -/
def getAll (l : List UInt8) (i : Int) : UInt8 × List UInt8 × Int × Int :=
  if i < 0 ∨ (l.length : Int) < i then (0, [], 0, 1) else (getK (l.drop i.toNat), getB (l.drop i.toNat), getN (l.drop i.toNat) i, getE (l.drop i.toNat))
def Got (w : World) (l : List UInt8) (i : Int) (e : Ending) (w' : World) : Prop :=
  ∃ A n c, e = .returned (.tuple #[.int .u8 ((getAll l i).1.toNat : Int), .slice A n c, .int .i64 (getAll l i).2.2.1, .int .i64 (getAll l i).2.2.2]) ∧ OwnB w' w.heap.size A n c (getAll l i).2.1 ∧ Below w.heap.size w w'
theorem got_err {w w' : World} {l : List UInt8} {i : Int} {x : Int} (h : getAll l i = (0, [], 0, x)) (hb : Below w.heap.size w w') : Got w l i (.returned (.tuple #[.int .u8 0, .slice none 0 0, .int .i64 0, .int .i64 x])) w' :=
  ⟨none, 0, 0, by rw [h]; rfl, by rw [h]; exact OwnB.nil _ _, hb⟩
theorem getAll_err {l : List UInt8} {i : Nat} {x : Int} (hi : i ≤ l.length) (h : getE (l.drop i) = x) (hx : x ≠ 0) : getAll l i = (0, [], 0, x) := by
  unfold getAll getK getB getN
  rw [if_neg (by omega), Int.toNat_natCast, h, if_neg hx, if_neg hx, if_neg hx]
end Go.Proofs.YtddcfgbembjbhaaDoor
