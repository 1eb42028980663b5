/- Routes: each once; what was tried, bit by bit: no program. -/
import Derived.Test.YtddcfgbembjbhaaDoorRoute7
namespace Go.Proofs.YtddcfgbembjbhaaDoor
open Go.RowKit
set_option linter.unusedVariables false
set_option linter.unusedSimpArgs false
theorem fold_nodup (f : Int → Bool) : ∀ (c out : List Int), out.Nodup → (c.foldl (once f) out).Nodup
  | [], out, h => h
  | y :: c, out, h => by
    rw [List.foldl_cons]
    refine fold_nodup f c (once f out y) ?_
    unfold once
    split
    · rename_i hc
      rw [Bool.and_eq_true] at hc
      have hy : y ∉ out := by simpa using hc.2
      rw [List.nodup_append]
      refine ⟨h, by simp, fun a ha b hb => ?_⟩
      simp at hb
      subst hb
      exact fun e => hy (e ▸ ha)
    · exact h
theorem order_nodup (f : Int → Bool) (c : List Int) : (orderL f c).Nodup := fold_nodup f c [] List.nodup_nil
theorem fold_mem (f : Int → Bool) : ∀ (c out : List Int) (x : Int), x ∈ c.foldl (once f) out ↔ x ∈ out ∨ (x ∈ c ∧ f x = true)
  | [], out, x => by simp
  | y :: c, out, x => by
    rw [List.foldl_cons, fold_mem f c]
    have h1 : x ∈ once f out y ↔ x ∈ out ∨ (x = y ∧ f x = true) := by
      unfold once
      by_cases hf : f y = true
      · by_cases hy : y ∈ out
        · have h2 : out.contains y = true := by simpa using hy
          rw [hf, h2]
          simp only [Bool.not_true, Bool.and_false, Bool.false_eq_true, if_false]
          constructor
          · exact fun h => .inl h
          · rintro (h | ⟨rfl, _⟩)
            · exact h
            · exact hy
        · have h2 : out.contains y = false := by simpa using hy
          rw [hf, h2]
          simp only [Bool.not_false, Bool.and_true, if_true, List.mem_append, List.mem_singleton]
          constructor
          · rintro (h | rfl)
            · exact .inl h
            · exact .inr ⟨rfl, hf⟩
          · rintro (h | ⟨rfl, _⟩)
            · exact .inl h
            · exact .inr rfl
      · have hf' : f y = false := by simpa using hf
        rw [hf']
        simp only [Bool.false_and, Bool.false_eq_true, if_false]
        constructor
        · exact fun h => .inl h
        · rintro (h | ⟨rfl, h⟩)
          · exact h
          · rw [hf'] at h; cases h
    rw [h1, List.mem_cons]
    constructor
    · rintro ((h | ⟨h, h'⟩) | ⟨h, h'⟩)
      · exact .inl h
      · exact .inr ⟨.inl h, h'⟩
      · exact .inr ⟨.inr h, h'⟩
    · rintro (h | ⟨h | h, h'⟩)
      · exact .inl (.inl h)
      · exact .inl (.inr ⟨h, h'⟩)
      · exact .inr ⟨h, h'⟩
theorem order_mem (f : Int → Bool) (c : List Int) (x : Int) : x ∈ orderL f c ↔ x ∈ c ∧ f x = true := by
  unfold orderL
  rw [fold_mem]
  simp
/-- The bits of what was tried are the first i of the order. -/
def Tries (T : Nat) (out : List Int) (i : Nat) : Prop := T < 18446744073709551616 ∧ ∀ m : Nat, T.testBit m = (out.take i).contains (m : Int)
theorem tries_zero (out : List Int) : Tries 0 out 0 := ⟨by omega, fun m => by simp⟩
theorem tries_free {T : Nat} {out : List Int} {i : Nat} (h : Tries T out i) (m : Nat) (hm : m ≤ 63) : free (T : Int) (m : Int) = !(out.take i).contains (m : Int) := by
  unfold free
  have h1 : decide ((63 : Int) < (m : Int)) = false := by simp; omega
  rw [h1, Bool.false_or, Int.toNat_natCast, ← h.2 m, Nat.testBit_eq_decide_div_mod_eq]
  have h2 : ((T : Int) / 2 ^ m % 2) = ((T / 2 ^ m % 2 : Nat) : Int) := by simp
  rw [h2]
  have h3 := Nat.mod_two_eq_zero_or_one (T / 2 ^ m)
  generalize T / 2 ^ m % 2 = q at *
  rcases h3 with rfl | rfl <;> rfl
theorem tries_next {T : Nat} {out : List Int} {i m : Nat} (h : Tries T out i) (hm : m ≤ 63) (hi : out[i]? = some (m : Int)) : Tries (T ||| 2 ^ m) out (i + 1) := by
  have hil := (List.getElem?_eq_some_iff.1 hi).1
  have he := (List.getElem?_eq_some_iff.1 hi).2
  have h2 : (2 : Nat) ^ m ≤ 2 ^ 63 := Nat.pow_le_pow_right (by omega) hm
  refine ⟨Nat.or_lt_two_pow (n := 64) h.1 (by omega), fun j => ?_⟩
  rw [Nat.testBit_or, Nat.testBit_two_pow, h.2 j, List.take_succ_eq_append_getElem hil, he]
  by_cases e : m = j
  · subst e; simp
  · have e' : ¬ (j : Int) = (m : Int) := by omega
    simp [e, e']
/-- The first of the order that was not tried. -/
theorem find_next {T : Nat} {out : List Int} {i : Nat} (h : Tries T out i) (hnd : out.Nodup) (hb : ∀ x ∈ out, 0 ≤ x ∧ x < 16) (x : Int) (hi : out[i]? = some x) : out.find? (free (T : Int)) = some x := by
  have hil := (List.getElem?_eq_some_iff.1 hi).1
  have he := (List.getElem?_eq_some_iff.1 hi).2
  have h0 : (out.take i).find? (free (T : Int)) = none := by
    rw [List.find?_eq_none]
    intro y hy
    have hyb := hb y (List.mem_of_mem_take hy)
    obtain ⟨m, rfl⟩ := Int.eq_ofNat_of_zero_le hyb.1
    rw [tries_free h m (by omega)]
    simp [hy]
  have hx : x ∈ out := by rw [← he]; exact List.getElem_mem hil
  have hxb := hb x hx
  have hf : free (T : Int) x = true := by
    obtain ⟨m, rfl⟩ := Int.eq_ofNat_of_zero_le hxb.1
    rw [tries_free h m (by omega)]
    have hnm : (m : Int) ∉ out.take i := by
      intro hm
      obtain ⟨j, hj, e⟩ := List.getElem_of_mem hm
      rw [List.getElem_take] at e
      have hji : j < i := by
        have := hj
        rw [List.length_take] at this
        omega
      exact (List.pairwise_iff_getElem.1 hnd) j i (by omega) hil hji (e.trans he.symm)
    simp [hnm]
  conv => lhs; rw [← List.take_append_drop i out]
  rw [List.find?_append, h0, Option.none_or, List.drop_eq_getElem_cons hil, he, List.find?_cons_of_pos hf]
theorem find_end {T : Nat} {out : List Int} {i : Nat} (h : Tries T out i) (hb : ∀ x ∈ out, 0 ≤ x ∧ x < 16) (hi : out.length ≤ i) : out.find? (free (T : Int)) = none := by
  rw [List.find?_eq_none]
  intro y hy
  have hyb := hb y hy
  obtain ⟨m, rfl⟩ := Int.eq_ofNat_of_zero_le hyb.1
  rw [tries_free h m (by omega), List.take_of_length_le hi]
  simp [hy]
theorem or_bit (T m : Nat) (hT : T < 18446744073709551616) (hm : m ≤ 63) : bits .or .u64 (T : Int) ((2 ^ m : Nat) : Int) = ((T ||| 2 ^ m : Nat) : Int) := by
  have h2 : (2 : Nat) ^ m ≤ 2 ^ 63 := Nat.pow_le_pow_right (by omega) hm
  exact bits_or_u64_nat T (2 ^ m) hT (by omega)
end Go.Proofs.YtddcfgbembjbhaaDoor
