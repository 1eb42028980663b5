/- Frames: bytes as strings; the head's question. -/
import Derived.Test.YtddcfgbembjbhaaDoorFrame4
import Derived.Test.YtddcfgbembjbhaaDoorFrameMath
import Derived.Laws.BytesString
import Derived.Laws.IdiomStrings
import Derived.Laws.StructEq
import Derived.Lib.BufferRead
import Derived.MapKept
import Derived.Lib.SmallJoins
import Derived.Lib.SlBytesConst
namespace Go.Proofs.YtddcfgbembjbhaaDoor
open Go.RowKit
set_option linter.unusedVariables false

/-- A string's bytes. -/
def str (l : List UInt8) : ByteArray := ⟨l.toArray⟩
theorem str_list (l : List UInt8) : (str l).toList = l := ByteArray.toList_mk l
theorem str_beq (a b : List UInt8) : ((str a).toList == (str b).toList) = (a == b) := by rw [str_list, str_list]
theorem conv_str {B : Nat} {A : Option Addr} {n : Nat} {l : List UInt8} {w : World} (hb : BytesAt w B A n l) (c : Nat) : (convert 23 9 (.slice A n c)).run Tryd.prog w = .ok (.string (str l)) w := by
  have hl := hb.1
  subst hl
  rcases A with _ | a
  · have h0 : l = [] := by
      rcases Nat.eq_zero_or_pos l.length with h | h
      · exact List.eq_nil_of_length_eq_zero h
      · obtain ⟨b, o, e, _⟩ := hb.2 h
        cases e
    subst h0
    exact Lib.run_convert_nil_bytes w 23 9 5 c Tryd.underlying23 Tryd.underlying5 Tryd.underlying9
  · refine run_convert_bytes_back w 23 9 5 a c l Tryd.underlying23 Tryd.underlying5 Tryd.underlying9 fun j hj => ?_
    obtain ⟨b, o, e, _, hc⟩ := hb.2 (by omega)
    injection e with e
    subst e
    have ha : (⟨b, o, none⟩ : Addr).add j = ⟨b, o + j, none⟩ := by unfold Addr.add; split <;> simp_all
    rw [ha]
    exact hc j hj
theorem conv_strs {B : Nat} {A : Option Addr} {n : Nat} {l : List UInt8} {w : World} (hb : BytesAt w B A n l) (c : Nat) : ∀ N, (convert 23 9 (.slice A n c)).run Tryd.prog (w.drewN N) = .ok (.string (str l)) (w.drewN N) := fun N => conv_str (hb.draws N) c

theorem putE_a : putE [97] = 0 := rfl
theorem getAll_a : getAll (putB 1 [97]) 0 = (1, [97], 9, 0) := by decide +kernel
theorem getAll_0 : getAll [0] 0 = (0, [], 0, 32) := by decide +kernel
theorem OwnB.cap {w : World} {base n c : Nat} {A : Option Addr} {l : List UInt8} (h : OwnB w base A n c l) : n ≤ c := by
  rcases h.form with ⟨_, rfl, rfl, _⟩ | ⟨_, _, _, _, h⟩
  · exact Nat.le_refl _
  · exact h
def Head (w : World) (e : Ending) (w' : World) : Prop := e = .returned (.bool true) ∧ Below w.heap.size w w'
set_option maxRecDepth 100000 in
set_option maxHeartbeats 1000000 in
theorem head03 (w : World) (hw : 0 < w.heap.size) (ht : Four w) : Calls Tryd.prog 39 #[] w (Head w) := by
  have kc := fun (w : World) (C : Array Value) (n c : Nat) => Lib.run_convert_bytes_const (P := Tryd.prog) w 23 5 C n c Tryd.underlying23 Tryd.underlying5
  have hsl : ((str [97]).toList == [97]) = true := by rw [str_list]; rfl
  go_enter Tryd.func39, Tryd.ntmps39
  go_wp2_with fail
  have b1 := (Below.refl w.heap.size w).alloc (Nat.le_refl _) (.cells #[.int .u8 97] 5 (1, 2))
  generalize hw1 : w.alloc (.cells #[.int .u8 97] 5 (1, 2)) = w1 at *
  have hby : BytesAt w1 w1.heap.size (some ⟨w.heap.size, 0, none⟩) 1 [97] := by rw [← hw1]; exact BytesAt.new _ _ _ _ _ _ _ _ rfl rfl rfl (by simp)
  have HW1 := Lib.hid hw1
  clear hw1
  refine (framePut 1 _ _ _ [97] _ w1 (by have := b1.size; omega) (ht.below b1 hw) hby (Nat.le_refl _) (by omega)).mono ?_
  rintro e w2 ⟨A, n, c, rfl, ho, hb2⟩
  rw [putE_a]
  have hs1 := b1.size
  have b2 := b1.trans (hb2.mono hs1)
  have hn9 : n = 9 := ho.len.symm
  subst hn9
  have hc9 := ho.cap
  have HO := Lib.hid ho
  clear hb2 ho hby
  go_wp2_with fail
  have hs2 := b2.size
  refine (frameGet A 9 c _ 0 w2.heap.size w2 (by omega) (ht.below b2 hw) HO.out.bytes (Nat.le_refl _) (by omega) hc9).mono ?_
  rintro e w3 ⟨A3, n3, c3, rfl, ho3, hb3⟩
  rw [getAll_a] at ho3 ⊢
  have b3 := b2.trans (hb3.mono hs2)
  have hs3 := b3.size
  have hn3 : n3 = 1 := ho3.len.symm
  subst hn3
  have HO3 := Lib.hid ho3
  clear hb3 ho3
  go_wp2_with fail
  have b4 := b3.alloc hs3 (.cells #[.int .u8 0] 5)
  have bb := (Below.refl w3.heap.size w3).alloc (Nat.le_refl _) (.cells #[.int .u8 0] 5)
  generalize hw4 : w3.alloc (.cells #[.int .u8 0] 5) = w4 at *
  have hby : BytesAt w4 w4.heap.size (some ⟨w3.heap.size, 0, none⟩) 1 [0] := by rw [← hw4]; exact BytesAt.new _ _ _ _ _ _ _ _ rfl rfl rfl (by simp)
  have hs4 := b4.size
  clear hw4
  refine (frameGet _ 1 1 _ 0 w4.heap.size w4 (by omega) (ht.below b4 hw) hby (Nat.le_refl _) (by omega) (by omega)).mono ?_
  rintro e w5 ⟨A5, n5, c5, rfl, ho5, hb5⟩
  rw [getAll_0] at ho5 ⊢
  have b5 := b4.trans (hb5.mono hs4)
  have hb35 := bb.trans (hb5.mono bb.size)
  have hcv := conv_str (HO3.out.bytes.below hb35) c3
  clear ho5 hb5 hby
  go_wp2
  go_ret
  exact ⟨by simp, b5⟩
end Go.Proofs.YtddcfgbembjbhaaDoor
