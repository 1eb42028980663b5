/- JournalRecovers, as a plain law: no program. -/
import Derived.Test.YtddcfgbembjbhaaDoorLostMath
namespace Go.Proofs.YtddcfgbembjbhaaDoor
open Go.RowKit
set_option linter.unusedVariables false
abbrev Frs := List (UInt8 × List UInt8)
theorem fit_take {fs : Frs} (h : Fit fs) (k : Nat) : Fit (fs.take k) := fun f hf => h f (List.mem_of_mem_take hf)
theorem fit_append {a b : Frs} (ha : Fit a) (hb : Fit b) : Fit (a ++ b) := fun f hf => (List.mem_append.1 hf).elim (ha f) (hb f)
theorem fit_snoc {fs : Frs} (h : Fit fs) {k : UInt8} {b : List UInt8} (hb : b.length ≤ 8192) : Fit (fs ++ [(k, b)]) := fit_append h fun f hf => by simp at hf; subst hf; exact hb
theorem take_snoc_of {fs : Frs} {i : Nat} {f : UInt8 × List UInt8} (h : fs[i]? = some f) : fs.take (i + 1) = fs.take i ++ [f] := by
  obtain ⟨hlt, rfl⟩ := List.getElem?_eq_some_iff.1 h
  rw [List.take_succ_eq_append_getElem hlt]
theorem flen_take_le (fs : Frs) (k : Nat) : flen (fs.take k) ≤ flen fs := by
  have := flen_append (fs.take k) (fs.drop k)
  rw [List.take_append_drop] at this
  omega
/-- The ends of the first k frames. -/
def recEnds (fs : Frs) (k : Nat) : List Int := (List.range k).map fun j => ((flen (fs.take (j + 1)) : Nat) : Int)
theorem recEnds_succ (fs : Frs) (k : Nat) : recEnds fs (k + 1) = recEnds fs k ++ [((flen (fs.take (k + 1)) : Nat) : Int)] := by unfold recEnds; rw [List.range_succ, List.map_append]; rfl
theorem recEnds_at (fs : Frs) (k j : Nat) (h : j < k) : (recEnds fs k).getD j 0 = ((flen (fs.take (j + 1)) : Nat) : Int) := by
  unfold recEnds
  rw [List.getD_eq_getElem?_getD, List.getElem?_map, List.getElem?_range h]
  rfl
/-- The journal ahead of round i; and ahead of its Append. -/
def recJ (hs gs : Frs) (i : Nat) : JV := if i ≤ hs.length then ⟨[], fcat (hs.take i), -1, false⟩ else ⟨fcat hs, fcat (gs.take (i - hs.length)), -1, false⟩
def recS (hs gs : Frs) (i : Nat) : JV := if i < hs.length then ⟨[], fcat (hs.take i), -1, false⟩ else ⟨fcat hs, fcat (gs.take (i - hs.length)), -1, false⟩
theorem rec_start (hs gs : Frs) : recJ hs gs 0 = JV.new := by unfold recJ; rw [if_pos (Nat.zero_le _)]; simp [fcat, JV.new]
theorem rec_sync (hs gs : Frs) (i : Nat) (h : i = hs.length) : (recJ hs gs i).sync = (0, recS hs gs i) := by
  subst h
  unfold recJ recS
  rw [if_pos (Nat.le_refl _), if_neg (Nat.lt_irrefl _), List.take_length, Nat.sub_self, List.take_zero, fcat_nil]
  rfl
theorem rec_skip (hs gs : Frs) (i : Nat) (h : i ≠ hs.length) : recJ hs gs i = recS hs gs i := by
  unfold recJ recS
  by_cases h1 : i < hs.length
  · rw [if_pos (by omega), if_pos h1]
  · rw [if_neg (by omega), if_neg h1]
theorem recS_fuse (hs gs : Frs) (i : Nat) : (recS hs gs i).fuse = -1 ∧ (recS hs gs i).down = false := by unfold recS; split <;> exact ⟨rfl, rfl⟩
theorem recJ_fuse (hs gs : Frs) (i : Nat) : (recJ hs gs i).fuse = -1 ∧ (recJ hs gs i).down = false := by unfold recJ; split <;> exact ⟨rfl, rfl⟩
theorem calm_eff {J : JV} (h : J.fuse = -1 ∧ J.down = false) : J.eff = (0, J) := eff_neg h.2 (by rw [h.1]; decide)
theorem rec_much (hs gs : Frs) (i : Nat) (k : UInt8) (b : List UInt8) (hb : 8192 < b.length) : (recS hs gs i).append k b = (2, recS hs gs i) := by unfold JV.append; rw [if_pos hb]
theorem rec_append (hs gs : Frs) (i : Nat) (k : UInt8) (b : List UInt8) (hf : (hs ++ gs)[i]? = some (k, b)) (hb : b.length ≤ 8192) : (recS hs gs i).append k b = (0, recJ hs gs (i + 1)) := by
  unfold JV.append
  rw [if_neg (by omega), calm_eff (recS_fuse hs gs i), if_pos rfl]
  unfold recS recJ
  by_cases h1 : i < hs.length
  · rw [List.getElem?_append_left h1] at hf
    rw [if_pos h1, if_pos (by omega)]
    simp only
    rw [take_snoc_of hf, fcat_append, fcat_cons, fcat_nil, List.append_nil]
  · rw [List.getElem?_append_right (by omega)] at hf
    rw [if_neg h1, if_neg (by omega), show i + 1 - hs.length = (i - hs.length) + 1 by omega]
    simp only
    rw [take_snoc_of hf, fcat_append, fcat_cons, fcat_nil, List.append_nil]
theorem recS_end (hs gs : Frs) (n : Nat) (hn : n = hs.length + gs.length) : recS hs gs n = ⟨fcat hs, fcat gs, -1, false⟩ := by
  subst hn
  unfold recS
  rw [if_neg (by omega), show hs.length + gs.length - hs.length = gs.length by omega, List.take_length]
theorem rec_crash (hs gs : Frs) (keep : Int) : (⟨fcat hs, fcat gs, -1, false⟩ : JV).crash keep = ⟨fcat hs ++ (fcat gs).take (keepN keep ⟨fcat hs, fcat gs, -1, false⟩), [], -1, true⟩ := rfl
theorem rec_open (hs gs : Frs) (m more : Nat) (hh : Fit hs) (hg : Fit gs) (hm : more ≤ gs.length) (hle : flen (gs.take more) ≤ m) (hend : more = gs.length ∧ m = flen gs ∨ more < gs.length ∧ m < flen (gs.take (more + 1))) :
    (⟨fcat hs ++ (fcat gs).take m, [], -1, true⟩ : JV).open = ((hs ++ gs.take more, 0), ⟨fcat (hs ++ gs.take more), [], -1, false⟩) := by
  have hfr : frames (fcat hs ++ (fcat gs).take m) = hs ++ gs.take more := by rw [frames_cat hs _ hh, frames_cuts gs m more hg hm hle hend]
  have hl : flen (hs ++ gs.take more) = (fcat (hs ++ gs.take more)).length := (fcat_len _).symm
  have hsplit : fcat gs = fcat (gs.take more) ++ fcat (gs.drop more) := by rw [← fcat_append, List.take_append_drop]
  have htk : (fcat hs ++ (fcat gs).take m).take (flen (hs ++ gs.take more)) = fcat (hs ++ gs.take more) := by
    rw [hl, fcat_append, List.length_append, List.take_length_add_append, List.take_take, Nat.min_eq_left (by rw [fcat_len]; exact hle), hsplit, List.take_left' rfl]
  have hlen : (fcat hs ++ (fcat gs).take m).length = flen hs + min m (flen gs) := by rw [List.length_append, List.length_take, fcat_len, fcat_len]
  have hle2 := flen_take_le gs more
  unfold JV.open
  simp only
  rw [hfr]
  by_cases hz : flen (hs ++ gs.take more) < (fcat hs ++ (fcat gs).take m).length
  · rw [if_pos hz]
    have he : (⟨fcat hs ++ (fcat gs).take m, [], -1, true⟩ : JV).up.eff = (0, ⟨fcat hs ++ (fcat gs).take m, [], -1, false⟩) := rfl
    rw [he, if_pos rfl]
    simp only
    rw [htk]
  · rw [if_neg hz]
    have hall : fcat hs ++ (fcat gs).take m = fcat (hs ++ gs.take more) := by
      have := List.take_of_length_le (Nat.le_of_not_lt hz)
      rw [← htk, this]
    rw [hall]
    rfl
theorem again_open (fs : Frs) (h : Fit fs) (d : Bool) : (⟨fcat fs, [], -1, d⟩ : JV).open = ((fs, 0), ⟨fcat fs, [], -1, false⟩) := by
  have hfr : frames (fcat fs) = fs := by
    have := frames_cat fs [] h
    rwa [List.append_nil, frames_nil, List.append_nil] at this
  unfold JV.open
  simp only
  rw [hfr, if_neg (by rw [fcat_len]; omega)]
  rfl
end Go.Proofs.YtddcfgbembjbhaaDoor
