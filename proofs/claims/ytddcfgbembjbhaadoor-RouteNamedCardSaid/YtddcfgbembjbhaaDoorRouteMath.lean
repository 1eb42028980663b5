/- Routes: what they are, as a plain law: no program. -/
import Derived.Test.YtddcfgbembjbhaaDoorPlanAt
namespace Go.Proofs.YtddcfgbembjbhaaDoor
open Go.RowKit
/-- Does a plan name x? -/
def named (t p s pc x : Int) : Bool := decide (0 ≤ x) && (decide (x = t) || (decide (x = p) && decide (pc < 100)) || decide (x = s))
def once (f : Int → Bool) (out : List Int) (x : Int) : List Int := if f x && !out.contains x then out ++ [x] else out
def orderL (f : Int → Bool) (c : List Int) : List Int := c.foldl (once f) []
def pickL (g f : Int → Bool) (c : List Int) : Int := ((c.filter f).find? g).getD (-1)
/-- x was not tried. -/
def free (tried x : Int) : Bool := decide (63 < x) || decide (tried / 2 ^ x.toNat % 2 = 0)

theorem once_len (f : Int → Bool) (out : List Int) (x : Int) : (once f out x).length ≤ out.length + 1 := by
  unfold once
  split <;> simp
theorem fold_find (f g : Int → Bool) : ∀ (c out : List Int), (c.foldl (once f) out).find? g = (out ++ c.filter f).find? g
  | [], out => by simp
  | x :: c, out => by
    rw [List.foldl_cons, fold_find f g c]
    unfold once
    by_cases hf : f x = true
    · by_cases hx : x ∈ out
      · have h2 : out.contains x = true := by simpa using hx
        rw [h2, hf]
        simp only [Bool.not_true, Bool.and_false, Bool.false_eq_true, if_false]
        rw [List.filter_cons_of_pos hf, List.find?_append, List.find?_append]
        cases ho : out.find? g with
        | some y => rfl
        | none =>
          have hg := List.find?_eq_none.1 ho x hx
          rw [List.find?_cons_of_neg hg]
      · have h2 : out.contains x = false := by simpa using hx
        rw [h2, hf]
        simp only [Bool.not_false, Bool.and_true, if_true]
        rw [List.filter_cons_of_pos hf, List.append_assoc]
        rfl
    · have hf' : f x = false := by simpa using hf
      rw [hf', List.filter_cons_of_neg hf]
      rfl
theorem order_find (f g : Int → Bool) (c : List Int) : (orderL f c).find? g = (c.filter f).find? g := by
  unfold orderL
  rw [fold_find]
  rfl
/-- The order so far. -/
def upto (f : Int → Bool) (c : List Int) (k : Nat) : List Int := orderL f (c.take k)
theorem upto_zero (f : Int → Bool) (c : List Int) : upto f c 0 = [] := rfl
theorem upto_succ (f : Int → Bool) (c : List Int) (k : Nat) (x : Int) (h : c[k]? = some x) : upto f c (k + 1) = once f (upto f c k) x := by
  have hk : k < c.length := (List.getElem?_eq_some_iff.1 h).1
  have hx : c[k] = x := (List.getElem?_eq_some_iff.1 h).2
  unfold upto orderL
  rw [List.take_succ_eq_append_getElem hk, List.foldl_append, hx]
  rfl
theorem upto_all (f : Int → Bool) (c : List Int) (k : Nat) (h : c.length ≤ k) : upto f c k = orderL f c := by
  unfold upto
  rw [List.take_of_length_le h]
theorem upto_len (f : Int → Bool) (c : List Int) : ∀ k, (upto f c k).length ≤ k
  | 0 => by simp [upto_zero]
  | k + 1 => by
    rcases Nat.lt_or_ge k c.length with h | h
    · rw [upto_succ f c k c[k] (List.getElem?_eq_getElem h)]
      have := once_len f (upto f c k) c[k]
      have := upto_len f c k
      omega
    · rw [upto_all f c (k + 1) (by omega), ← upto_all f c k h]
      have := upto_len f c k
      omega
/-! ### Bits -/
theorem wrap_two_pow (k : Nat) (h : k ≤ 63) : IntKind.u64.wrap ((2 : Int) ^ k) = ((2 ^ k : Nat) : Int) := by
  have h2 : (2 : Nat) ^ k ≤ 2 ^ 63 := Nat.pow_le_pow_right (by omega) h
  have h3 : (2 : Int) ^ k = ((2 ^ k : Nat) : Int) := by rw [Int.natCast_pow]; rfl
  rw [h3]
  generalize 2 ^ k = m at *
  exact IntWalk.u64_in _ (by omega)
theorem and_two_pow (n k : Nat) : n &&& 2 ^ k = 2 ^ k * (n / 2 ^ k % 2) := by
  apply Nat.eq_of_testBit_eq
  intro i
  rw [Nat.testBit_and, Nat.testBit_two_pow]
  rcases Nat.mod_two_eq_zero_or_one (n / 2 ^ k) with h | h
  · have hb : n.testBit k = false := by rw [Nat.testBit_eq_decide_div_mod_eq, h]; decide
    rw [h, Nat.mul_zero, Nat.zero_testBit]
    by_cases e : k = i
    · subst e; simp [hb]
    · simp [e]
  · have hb : n.testBit k = true := by rw [Nat.testBit_eq_decide_div_mod_eq, h]; decide
    rw [h, Nat.mul_one, Nat.testBit_two_pow]
    by_cases e : k = i
    · subst e; simp [hb]
    · simp [e]
theorem and_bit (n k : Nat) (hn : n < 18446744073709551616) (hk : k ≤ 63) : bits .and .u64 (n : Int) ((2 ^ k : Nat) : Int) = ((2 ^ k * (n / 2 ^ k % 2) : Nat) : Int) := by
  have h2 : (2 : Nat) ^ k ≤ 2 ^ 63 := Nat.pow_le_pow_right (by omega) hk
  rw [bits_and_u64_nat n (2 ^ k) hn (by omega), and_two_pow]
/-- What 'tried & (1 << m) == 0' says, and '(tried >> m) & 1 == 0'. -/
theorem free_bit (T m : Nat) (hT : T < 18446744073709551616) (hm : m ≤ 63) : ∃ M : Nat, ∃ B : Int, IntKind.u64.wrap ((2 : Int) ^ m) = (M : Int) ∧ bits .and .u64 (T : Int) (M : Int) = B ∧ decide (B = 0) = free (T : Int) (m : Int) := by
  refine ⟨2 ^ m, _, wrap_two_pow m hm, and_bit T m hT hm, ?_⟩
  unfold free
  have h1 : decide ((63 : Int) < (m : Int)) = false := by simp; omega
  rw [h1, Bool.false_or, Int.toNat_natCast]
  have h2 : ((T : Int) / 2 ^ m % 2) = ((T / 2 ^ m % 2 : Nat) : Int) := by simp
  rw [h2]
  have hp : 0 < 2 ^ m := Nat.two_pow_pos m
  have h3 : ((2 ^ m * (T / 2 ^ m % 2) : Nat) : Int) = 0 ↔ ((T / 2 ^ m % 2 : Nat) : Int) = 0 := by
    generalize T / 2 ^ m % 2 = q at *
    constructor
    · intro h
      have h' : 2 ^ m * q = 0 := by exact_mod_cast h
      rcases Nat.mul_eq_zero.1 h' with h | h
      · omega
      · rw [h]; rfl
    · intro h
      have h' : q = 0 := by exact_mod_cast h
      rw [h']
      rfl
  exact decide_eq_decide.2 h3
theorem free_great (T x : Int) (h : 63 < x) : free T x = true := by unfold free; rw [decide_eq_true h]; rfl
/-- Who was picked among the first k: nobody. -/
def noneIn (g f : Int → Bool) (c : List Int) (k : Nat) : Prop := ((c.take k).filter f).find? g = none
theorem none_zero (g f : Int → Bool) (c : List Int) : noneIn g f c 0 := rfl
theorem none_skip {g f : Int → Bool} {c : List Int} {k : Nat} {x : Int} (h : noneIn g f c k) (hx : c[k]? = some x) (hf : f x = false) : noneIn g f c (k + 1) := by
  have hk : k < c.length := (List.getElem?_eq_some_iff.1 hx).1
  have e : c[k] = x := (List.getElem?_eq_some_iff.1 hx).2
  unfold noneIn at h ⊢
  rw [List.take_succ_eq_append_getElem hk, e, List.filter_append, List.filter_cons_of_neg (by rw [hf]; simp), List.filter_nil, List.append_nil]
  exact h
theorem none_next {g f : Int → Bool} {c : List Int} {k : Nat} {x : Int} (h : noneIn g f c k) (hx : c[k]? = some x) (hg : g x = false) : noneIn g f c (k + 1) := by
  have hk : k < c.length := (List.getElem?_eq_some_iff.1 hx).1
  have e : c[k] = x := (List.getElem?_eq_some_iff.1 hx).2
  unfold noneIn at h ⊢
  rw [List.take_succ_eq_append_getElem hk, e, List.filter_append, List.find?_append, h, Option.none_or]
  rw [List.find?_eq_none]
  intro y hy
  have := (List.mem_filter.1 hy).1
  simp at this
  subst this
  rw [hg]
  simp
theorem none_all {g f : Int → Bool} {c : List Int} {k : Nat} (h : noneIn g f c k) (hk : c.length ≤ k) : pickL g f c = -1 := by
  unfold noneIn at h
  rw [List.take_of_length_le hk] at h
  unfold pickL
  rw [h]
  rfl
theorem picked {g f : Int → Bool} {c : List Int} {k : Nat} {x : Int} (h : noneIn g f c k) (hx : c[k]? = some x) (hf : f x = true) (hg : g x = true) : pickL g f c = x := by
  have hk : k < c.length := (List.getElem?_eq_some_iff.1 hx).1
  have e : c[k] = x := (List.getElem?_eq_some_iff.1 hx).2
  unfold noneIn at h
  unfold pickL
  have e2 : c = c.take k ++ x :: c.drop (k + 1) := by
    conv => lhs; rw [← List.take_append_drop k c]
    rw [List.drop_eq_getElem_cons hk, e]
  rw [e2, List.filter_append, List.find?_append, h, Option.none_or, List.filter_cons_of_pos hf, List.find?_cons_of_pos hg]
  rfl
end Go.Proofs.YtddcfgbembjbhaaDoor
