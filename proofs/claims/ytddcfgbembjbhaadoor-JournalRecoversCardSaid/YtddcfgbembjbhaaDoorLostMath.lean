/- JournalLost, as a plain law: no program. -/
import Derived.Test.YtddcfgbembjbhaaDoorJour11
namespace Go.Proofs.YtddcfgbembjbhaaDoor
open Go.RowKit
set_option linter.unusedVariables false
theorem lost_open (k : UInt8) (l l2 r : List UInt8) (m : Nat) (d : Bool) (h : l.length ≤ 8192) (h2 : l2.length ≤ 8192) (hm : m < l2.length + 8) :
    (⟨fput k l ++ (fput k l2).take m, r, -1, d⟩ : JV).open = (([(k, l)], 0), ⟨fput k l, [], -1, false⟩) := by
  have hfr : frames (fput k l ++ (fput k l2).take m) = [(k, l)] := by rw [frames_put k l _ h, frames_no (getE_cut k l2 m h2 hm)]
  have hl := fput_len k l
  have hl2 := fput_len k l2
  unfold JV.open
  simp only
  rw [hfr, flen_one]
  by_cases hz : m = 0
  · subst hz
    rw [List.take_zero, List.append_nil, if_neg (by omega)]
    rfl
  · rw [if_pos (by rw [List.length_append, List.length_take]; omega)]
    have he : (⟨fput k l ++ (fput k l2).take m, r, -1, d⟩ : JV).up.eff = (0, ⟨fput k l ++ (fput k l2).take m, [], -1, false⟩) := rfl
    rw [he]
    simp only [if_true]
    rw [← hl, List.take_left' rfl]
end Go.Proofs.YtddcfgbembjbhaaDoor
