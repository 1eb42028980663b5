/- Frames: what Get tells of what Put has made, and of what stands behind: no program. -/
import Derived.Test.YtddcfgbembjbhaaDoorFrame3
import Derived.Test.YtddcfgbembjbhaaDoorWCrcByte
namespace Go.Proofs.YtddcfgbembjbhaaDoor
open Go.RowKit
set_option linter.unusedVariables false

theorem numOf_two (a b : UInt8) : numOf [a, b] = a.toNat * 256 + b.toNat := by simp [numOf]
theorem numOf_four (a b c d : UInt8) : numOf [a, b, c, d] = ((a.toNat * 256 + b.toNat) * 256 + c.toNat) * 256 + d.toNat := by simp [numOf]
theorem numOf_big (s : BitVec 32) : numOf (big s) = s.toNat := by
  have := s.isLt
  unfold big
  rw [numOf_four]
  simp only [byteOf_toNat, Nat.reduceMul, Nat.reducePow]
  omega
theorem big_len (s : BitVec 32) : (big s).length = 4 := rfl
theorem big_of {a b c d : UInt8} {s : BitVec 32} (h : s.toNat = numOf [a, b, c, d]) : big s = [a, b, c, d] := by
  rw [numOf_four] at h
  have ha := a.toNat_lt
  have hb := b.toNat_lt
  have hc := c.toNat_lt
  have hd := d.toNat_lt
  unfold big
  congr 1
  · apply UInt8.toNat_inj.1; simp only [byteOf_toNat, Nat.reduceMul, Nat.reducePow]; omega
  congr 1
  · apply UInt8.toNat_inj.1; simp only [byteOf_toNat, Nat.reduceMul, Nat.reducePow]; omega
  congr 1
  · apply UInt8.toNat_inj.1; simp only [byteOf_toNat, Nat.reduceMul, Nat.reducePow]; omega
  congr 1
  · apply UInt8.toNat_inj.1; simp only [byteOf_toNat, Nat.reduceMul, Nat.reducePow]; omega
theorem numOf_len (n : Nat) (h : n ≤ 8192) : numOf [UInt8.ofNat (n / 256), UInt8.ofNat n] = n := by
  rw [numOf_two]
  simp
  omega

theorem fmid_len (k : UInt8) (l : List UInt8) : (fmid k l).length = 3 + l.length := by simp [fmid]; omega
theorem fput_form (k : UInt8) (l : List UInt8) : fput k l = 247 :: k :: UInt8.ofNat (l.length / 256) :: UInt8.ofNat l.length :: (l ++ big (fsum k l)) := by simp [fput, fmid]
theorem num2_put (k : UInt8) (l t : List UInt8) (h : l.length ≤ 8192) : num2 (fput k l ++ t) = l.length := by
  unfold num2
  rw [fput_form]
  exact numOf_len _ h
theorem mid_put (k : UInt8) (l t : List UInt8) (h : l.length ≤ 8192) : mid (fput k l ++ t) = fmid k l := by
  unfold mid
  rw [num2_put k l t h]
  have e : (fput k l ++ t).drop 1 = fmid k l ++ (big (fsum k l) ++ t) := by simp [fput]
  rw [e]
  exact List.take_left' (fmid_len k l)
theorem num4_put (k : UInt8) (l t : List UInt8) (h : l.length ≤ 8192) : num4 (fput k l ++ t) = (fsum k l).toNat := by
  unfold num4
  rw [num2_put k l t h]
  have e : fput k l ++ t = (247 :: fmid k l) ++ (big (fsum k l) ++ t) := by simp [fput]
  rw [e, List.drop_left' (by simp [fmid_len]; omega), List.take_left' (big_len _), numOf_big]
theorem getE_put (k : UInt8) (l t : List UInt8) (h : l.length ≤ 8192) : getE (fput k l ++ t) = 0 := by
  have hl : (fput k l ++ t).length = l.length + 8 + t.length := by rw [List.length_append, fput_len]
  unfold getE
  rw [num2_put k l t h, mid_put k l t h, num4_put k l t h, if_neg (by omega), if_neg (by simp [byteAt, fput_form]), if_neg (by omega), if_neg (by omega), if_neg (by omega), if_neg]
  intro hc
  exact hc rfl
theorem byteAt_put (k : UInt8) (l t : List UInt8) : byteAt (fput k l ++ t) 1 = k := by simp [byteAt, fput_form]
theorem body_put (k : UInt8) (l t : List UInt8) (h : l.length ≤ 8192) : ((fput k l ++ t).drop 4).take (num2 (fput k l ++ t)) = l := by
  rw [num2_put k l t h, fput_form]
  simp
theorem rest_put (k : UInt8) (l t : List UInt8) (h : l.length ≤ 8192) : (fput k l ++ t).drop (num2 (fput k l ++ t) + 8) = t := by
  rw [num2_put k l t h]
  exact List.drop_left' (fput_len k l)
theorem put_inj {k k' : UInt8} {l l' t t' : List UInt8} (h : l.length ≤ 8192) (h' : l'.length ≤ 8192) (e : fput k l ++ t = fput k' l' ++ t') : k = k' ∧ l = l' ∧ t = t' := by
  have e1 := byteAt_put k l t
  have e2 := body_put k l t h
  have e3 := rest_put k l t h
  rw [e, byteAt_put] at e1
  rw [e, body_put _ _ _ h'] at e2
  rw [e, rest_put _ _ _ h'] at e3
  exact ⟨e1.symm, e2.symm, e3.symm⟩
theorem put_same {k k' : UInt8} {l l' : List UInt8} (h : l.length ≤ 8192) (h' : l'.length ≤ 8192) (e : fput k l = fput k' l') : k = k' ∧ l = l' := by
  have := put_inj (t := []) (t' := []) h h' (by simpa using e)
  exact ⟨this.1, this.2.1⟩

/-! What is told was put. -/
theorem getE_split {r : List UInt8} (h : getE r = 0) : ¬ r.length = 0 ∧ byteAt r 0 = 247 ∧ 8 ≤ r.length ∧ num2 r ≤ 8192 ∧ num2 r + 8 ≤ r.length ∧ (Crc.add 0 (mid r)).toNat = num4 r := by
  unfold getE at h
  by_cases h1 : r.length = 0
  · rw [if_pos h1] at h; cases h
  rw [if_neg h1] at h
  by_cases h2 : byteAt r 0 ≠ 247
  · rw [if_pos h2] at h; cases h
  rw [if_neg h2] at h
  by_cases h3 : r.length < 8
  · rw [if_pos h3] at h; cases h
  rw [if_neg h3] at h
  by_cases h4 : 8192 < num2 r
  · rw [if_pos h4] at h; cases h
  rw [if_neg h4] at h
  by_cases h5 : r.length < num2 r + 8
  · rw [if_pos h5] at h; cases h
  rw [if_neg h5] at h
  by_cases h6 : (Crc.add 0 (mid r)).toNat ≠ num4 r
  · rw [if_pos h6] at h; cases h
  exact ⟨h1, Decidable.not_not.1 h2, by omega, by omega, by omega, Decidable.not_not.1 h6⟩
theorem get_put {r : List UInt8} (h : getE r = 0) : r = fput (byteAt r 1) ((r.drop 4).take (num2 r)) ++ r.drop (num2 r + 8) ∧ ((r.drop 4).take (num2 r)).length = num2 r := by
  obtain ⟨_, h0, h8, hn, hnl, hs⟩ := getE_split h
  rcases r with _ | ⟨a, _ | ⟨b, _ | ⟨c, _ | ⟨d, rest⟩⟩⟩⟩
  iterate 4 (simp at h8)
  have hN : num2 (a :: b :: c :: d :: rest) = c.toNat * 256 + d.toNat := by
    unfold num2
    simpa using numOf_two c d
  have hc := c.toNat_lt
  have hd := d.toNat_lt
  generalize hm : num2 (a :: b :: c :: d :: rest) = n at *
  have hrl : n + 4 ≤ rest.length := by simp at hnl; omega
  have hlen : (((a :: b :: c :: d :: rest).drop 4).take n).length = n := by simp; omega
  refine ⟨?_, hlen⟩
  have ea : a = 247 := by simpa [byteAt] using h0
  have e1 : byteAt (a :: b :: c :: d :: rest) 1 = b := by simp [byteAt]
  have eb : (a :: b :: c :: d :: rest).drop 4 = rest := rfl
  rw [e1, eb]
  have hln : (rest.take n).length = n := by rw [List.length_take]; omega
  have ehi : UInt8.ofNat (n / 256) = c := by apply UInt8.toNat_inj.1; simp; omega
  have elo : UInt8.ofNat n = d := by apply UInt8.toNat_inj.1; simp; omega
  have emid : mid (a :: b :: c :: d :: rest) = fmid b (rest.take n) := by
    unfold mid
    rw [hm]
    unfold fmid
    rw [hln, ehi, elo]
    simp [Nat.add_comm 3 n]
  have e4 : ∃ w x y z, (rest.drop n).take 4 = [w, x, y, z] := by
    have : ((rest.drop n).take 4).length = 4 := by simp; omega
    rcases hq : (rest.drop n).take 4 with _ | ⟨w, _ | ⟨x, _ | ⟨y, _ | ⟨z, _ | ⟨u, q⟩⟩⟩⟩⟩ <;> rw [hq] at this <;> simp at this
    exact ⟨w, x, y, z, rfl⟩
  obtain ⟨w, x, y, z, e4⟩ := e4
  have en4 : num4 (a :: b :: c :: d :: rest) = numOf [w, x, y, z] := by
    unfold num4
    rw [hm, ← e4]
    congr 2
    rw [Nat.add_comm 4 n]
    simp
  have ebig : big (fsum b (rest.take n)) = [w, x, y, z] := big_of (by rw [← en4, ← hs, emid]; rfl)
  rw [fput_form, hln, ehi, elo, ebig, ← e4, ea]
  have : (247 :: b :: c :: d :: rest).drop (n + 8) = (rest.drop n).drop 4 := by simp
  rw [this]
  simp only [List.cons_append, List.append_assoc, List.take_append_drop]

/-! ### All frames -/
def flen (fs : List (UInt8 × List UInt8)) : Nat := (fs.map fun f => f.2.length + 8).sum
theorem flen_nil : flen [] = 0 := rfl
theorem flen_cons (f : UInt8 × List UInt8) (fs : List (UInt8 × List UInt8)) : flen (f :: fs) = f.2.length + 8 + flen fs := by simp [flen]
theorem flen_append (a b : List (UInt8 × List UInt8)) : flen (a ++ b) = flen a + flen b := by simp [flen]
def fcat (fs : List (UInt8 × List UInt8)) : List UInt8 := (fs.map fun f => fput f.1 f.2).flatten
theorem fcat_nil : fcat [] = [] := rfl
theorem fcat_cons (f : UInt8 × List UInt8) (fs : List (UInt8 × List UInt8)) : fcat (f :: fs) = fput f.1 f.2 ++ fcat fs := by simp [fcat]
theorem fcat_append (a b : List (UInt8 × List UInt8)) : fcat (a ++ b) = fcat a ++ fcat b := by simp [fcat]
theorem fcat_len (fs : List (UInt8 × List UInt8)) : (fcat fs).length = flen fs := by
  induction fs with
  | nil => rfl
  | cons f fs ih => rw [fcat_cons, List.length_append, fput_len, flen_cons, ih]
def frames (r : List UInt8) : List (UInt8 × List UInt8) :=
  if h : getE r = 0 then (byteAt r 1, (r.drop 4).take (num2 r)) :: frames (r.drop (num2 r + 8)) else []
termination_by r.length
decreasing_by
  have := getE_split h
  rw [List.length_drop]
  omega
theorem frames_no {r : List UInt8} (h : getE r ≠ 0) : frames r = [] := by rw [frames, dif_neg h]
theorem frames_yes {r : List UInt8} (h : getE r = 0) : frames r = (byteAt r 1, (r.drop 4).take (num2 r)) :: frames (r.drop (num2 r + 8)) := by rw [frames, dif_pos h]
theorem frames_put (k : UInt8) (l t : List UInt8) (h : l.length ≤ 8192) : frames (fput k l ++ t) = (k, l) :: frames t := by
  rw [frames_yes (getE_put k l t h), byteAt_put, body_put k l t h, rest_put k l t h]
theorem frames_nil : frames [] = [] := frames_no (by decide)
/-- Bodies that fit a frame. -/
def Fit (fs : List (UInt8 × List UInt8)) : Prop := ∀ f ∈ fs, f.2.length ≤ 8192
theorem Fit.cons {f : UInt8 × List UInt8} {fs : List (UInt8 × List UInt8)} (h : Fit (f :: fs)) : f.2.length ≤ 8192 ∧ Fit fs := ⟨h f (by simp), fun g hg => h g (by simp [hg])⟩
theorem frames_cat : ∀ (fs : List (UInt8 × List UInt8)) (t : List UInt8), Fit fs → frames (fcat fs ++ t) = fs ++ frames t
  | [], t, _ => by simp [fcat]
  | f :: fs, t, h => by
    rw [fcat_cons, List.append_assoc, frames_put _ _ _ h.cons.1, frames_cat fs t h.cons.2]
    rfl
/-- What was told stands there. -/
theorem frames_are (r : List UInt8) : Fit (frames r) ∧ r = fcat (frames r) ++ r.drop (flen (frames r)) ∧ flen (frames r) ≤ r.length ∧ getE (r.drop (flen (frames r))) ≠ 0 := by
  by_cases h : getE r = 0
  · obtain ⟨e, hl⟩ := get_put h
    have hs := getE_split h
    have ih := frames_are (r.drop (num2 r + 8))
    rw [frames_yes h, flen_cons, fcat_cons]
    simp only [hl]
    have hd : r.drop (num2 r + 8 + flen (frames (r.drop (num2 r + 8)))) = (r.drop (num2 r + 8)).drop (flen (frames (r.drop (num2 r + 8)))) := by rw [List.drop_drop]
    have hlen : (r.drop (num2 r + 8)).length = r.length - (num2 r + 8) := List.length_drop
    refine ⟨fun f hf => ?_, ?_, by omega, by rw [hd]; exact ih.2.2.2⟩
    · rcases List.mem_cons.1 hf with rfl | hf
      · simp only [hl]; exact hs.2.2.2.1
      · exact ih.1 f hf
    · rw [hd, List.append_assoc, ← ih.2.1]
      exact e
  · rw [frames_no h, flen_nil]
    exact ⟨fun f hf => by simp at hf, by simp [fcat], Nat.zero_le _, by simpa using h⟩
termination_by r.length
decreasing_by
  rw [List.length_drop]
  omega
/-- A frame that was cut is none. -/
theorem getE_cut (k : UInt8) (l : List UInt8) (m : Nat) (h : l.length ≤ 8192) (hm : m < l.length + 8) : getE ((fput k l).take m) ≠ 0 := by
  intro hc
  obtain ⟨e, hl⟩ := get_put hc
  have hs := getE_split hc
  have e2 : fput k l ++ [] = fput (byteAt ((fput k l).take m) 1) ((((fput k l).take m).drop 4).take (num2 ((fput k l).take m))) ++ (((fput k l).take m).drop (num2 ((fput k l).take m) + 8) ++ (fput k l).drop m) := by
    rw [← List.append_assoc, ← e, List.take_append_drop, List.append_nil]
  obtain ⟨_, e3, _⟩ := put_inj h (by omega) e2
  have hlt : ((fput k l).take m).length = m := by rw [List.length_take, fput_len]; omega
  have := congrArg List.length e3
  omega
theorem frames_cuts : ∀ (fs : List (UInt8 × List UInt8)) (m n : Nat), Fit fs → n ≤ fs.length → flen (fs.take n) ≤ m → (n = fs.length ∧ m = flen fs ∨ n < fs.length ∧ m < flen (fs.take (n + 1))) → frames ((fcat fs).take m) = fs.take n
  | [], m, n, _, hn, _, _ => by
    obtain rfl : n = 0 := by simpa using hn
    simp [fcat, frames_nil]
  | f :: fs, m, n, hf, hn, hlo, hhi => by
    rcases n with _ | n
    · rcases hhi with ⟨h, _⟩ | ⟨_, h⟩
      · simp at h
      · simp only [Nat.zero_add, List.take_succ_cons, List.take_zero, flen_cons, flen_nil] at h
        rw [fcat_cons, List.take_append_of_le_length (by rw [fput_len]; omega)]
        exact frames_no (getE_cut _ _ _ hf.cons.1 (by omega))
    · simp only [List.take_succ_cons, flen_cons] at hlo
      rw [fcat_cons, List.take_append, List.take_of_length_le (by rw [fput_len]; omega), frames_put _ _ _ hf.cons.1, List.take_succ_cons, fput_len]
      rw [frames_cuts fs (m - (f.2.length + 8)) n hf.cons.2 (by simpa using hn) (by omega)]
      rcases hhi with ⟨h1, h2⟩ | ⟨h1, h2⟩
      · rw [flen_cons] at h2
        exact .inl ⟨by simpa using h1, by omega⟩
      · rw [List.take_succ_cons, flen_cons] at h2
        exact .inr ⟨by simpa using h1, by omega⟩
/-- All frames of bytes that are whole ones, and of others behind. -/
theorem frames_joined (a b : List UInt8) (h : flen (frames a) = a.length) : frames (a ++ b) = frames a ++ frames b := by
  obtain ⟨hf, e, _, _⟩ := frames_are a
  rw [h, List.drop_length, List.append_nil] at e
  conv => lhs; rw [e]
  exact frames_cat _ _ hf
theorem flen_joined (a b : List UInt8) (h : flen (frames a) = a.length) : flen (frames (a ++ b)) = a.length + flen (frames b) := by
  rw [frames_joined a b h, flen_append, h]

/-! ### A frame that was spoilt -/
theorem spoilt (k : UInt8) (l : List UInt8) (i : Nat) (v : UInt8) (h : l.length ≤ 8192) (hi : 4 ≤ i ∧ i < l.length + 8 ∨ i = 1) (hv : v ≠ (fput k l).getD i 0) : getE ((fput k l).set i v) = 33 := by
  have hl : ((fput k l).set i v).length = l.length + 8 := by rw [List.length_set, fput_len]
  have h0 : byteAt ((fput k l).set i v) 0 = 247 := by
    unfold byteAt
    rw [List.getD_eq_getElem?_getD, List.getElem?_set_ne (by omega)]
    rw [fput_form]
    rfl
  have h2 : num2 ((fput k l).set i v) = l.length := by
    have e := num2_put k l [] h
    rw [List.append_nil] at e
    unfold num2 at e ⊢
    rw [← e]
    congr 1
    apply List.ext_getElem?
    intro j
    by_cases hj : j < 2
    · rw [List.getElem?_take, List.getElem?_take, if_pos hj, if_pos hj, List.getElem?_drop, List.getElem?_drop, List.getElem?_set_ne (by omega)]
    · rw [List.getElem?_take, List.getElem?_take, if_neg hj, if_neg hj]
  have hm := mid_put k l [] h
  have h4 := num4_put k l [] h
  have h2' := num2_put k l [] h
  rw [List.append_nil] at hm h4 h2'
  have hne : (Crc.add 0 (mid ((fput k l).set i v))).toNat ≠ num4 ((fput k l).set i v) := by
    have hil : i < (fput k l).length := by rw [fput_len]; omega
    rw [List.getD_eq_getElem?_getD, List.getElem?_eq_getElem hil, Option.getD_some] at hv
    by_cases hb : i < 4 + l.length
    · -- in the middle
      have e4 : num4 ((fput k l).set i v) = num4 (fput k l) := by
        unfold num4
        rw [h2, h2']
        congr 1
        apply List.ext_getElem?
        intro j
        rw [List.getElem?_take, List.getElem?_take, List.getElem?_drop, List.getElem?_drop, List.getElem?_set_ne (by omega)]
      have em : mid ((fput k l).set i v) = (fmid k l).set (i - 1) v := by
        rw [← hm]
        unfold mid
        rw [h2, h2']
        apply List.ext_getElem?
        intro j
        by_cases hj : j < 3 + l.length
        · rw [List.getElem?_take, if_pos hj, List.getElem?_drop]
          by_cases hij : i = 1 + j
          · subst hij
            rw [List.getElem?_set_self (by omega), Nat.add_sub_cancel_left, List.getElem?_set_self (by rw [List.length_take, List.length_drop]; omega)]
          · rw [List.getElem?_set_ne hij, List.getElem?_set_ne (by omega), List.getElem?_take, if_pos hj, List.getElem?_drop]
        · rw [List.getElem?_take, if_neg hj, List.getElem?_eq_none]
          rw [List.length_set, List.length_take, List.length_drop]
          omega
      rw [e4, h4, em]
      intro hc
      have hlm : i - 1 < (fmid k l).length := by rw [fmid_len]; omega
      have hne : v ≠ (fmid k l)[i - 1] := by
        intro hvv
        apply hv
        rw [hvv]
        have : (fput k l)[i]? = (fmid k l)[i - 1]? := by
          unfold fput
          rw [List.cons_append, show i = (i - 1) + 1 by omega, List.getElem?_cons_succ, Nat.add_sub_cancel, List.getElem?_append_left hlm]
        rw [List.getElem?_eq_getElem hil, List.getElem?_eq_getElem hlm] at this
        exact (Option.some.inj this).symm
      exact sum_set_ne 0 (fmid k l) (i - 1) v hlm hne (BitVec.eq_of_toNat_eq hc)
    · -- in the sum
      have em : mid ((fput k l).set i v) = mid (fput k l) := by
        unfold mid
        rw [h2, h2']
        apply List.ext_getElem?
        intro j
        by_cases hj : j < 3 + l.length
        · rw [List.getElem?_take, List.getElem?_take, if_pos hj, if_pos hj, List.getElem?_drop, List.getElem?_drop, List.getElem?_set_ne (by omega)]
        · rw [List.getElem?_take, List.getElem?_take, if_neg hj, if_neg hj]
      rw [em, hm]
      intro hc
      -- the four bytes are those of the sum
      have e4 : ∀ (q : List UInt8), q.length = l.length + 8 → (q.drop (4 + l.length)).take 4 = [q.getD (4 + l.length) 0, q.getD (5 + l.length) 0, q.getD (6 + l.length) 0, q.getD (7 + l.length) 0] := by
        intro q hq
        apply List.ext_getElem?
        intro j
        rcases j with _ | _ | _ | _ | j
        · simp [List.getElem?_drop, List.getD_eq_getElem?_getD]
          rw [List.getElem?_eq_getElem (by omega)]; rfl
        · simp [List.getElem?_drop, List.getD_eq_getElem?_getD]
          rw [show 4 + l.length + 1 = 5 + l.length by omega, List.getElem?_eq_getElem (by omega)]; rfl
        · simp [List.getElem?_drop, List.getD_eq_getElem?_getD]
          rw [show 4 + l.length + 2 = 6 + l.length by omega, List.getElem?_eq_getElem (by omega)]; rfl
        · simp [List.getElem?_drop, List.getD_eq_getElem?_getD]
          rw [show 4 + l.length + 3 = 7 + l.length by omega, List.getElem?_eq_getElem (by omega)]; rfl
        · rw [List.getElem?_take, if_neg (by omega)]; rfl
      have n1 : num4 ((fput k l).set i v) = numOf [((fput k l).set i v).getD (4 + l.length) 0, ((fput k l).set i v).getD (5 + l.length) 0, ((fput k l).set i v).getD (6 + l.length) 0, ((fput k l).set i v).getD (7 + l.length) 0] := by
        unfold num4
        rw [h2, e4 _ hl]
      have n2 : (fsum k l).toNat = numOf [(fput k l).getD (4 + l.length) 0, (fput k l).getD (5 + l.length) 0, (fput k l).getD (6 + l.length) 0, (fput k l).getD (7 + l.length) 0] := by
        rw [← h4]
        unfold num4
        rw [h2', e4 _ (fput_len k l)]
      have hs : (Crc.add 0 (fmid k l)).toNat = (fsum k l).toNat := rfl
      rw [hs, n1, n2, numOf_four, numOf_four] at hc
      have gset : ∀ j, ((fput k l).set i v).getD j 0 = if i = j then v else (fput k l).getD j 0 := by
        intro j
        by_cases hij : i = j
        · subst hij
          rw [if_pos rfl, List.getD_eq_getElem?_getD, List.getElem?_set_self hil]
          rfl
        · rw [if_neg hij, List.getD_eq_getElem?_getD, List.getElem?_set_ne hij, ← List.getD_eq_getElem?_getD]
      have hvn : v.toNat ≠ ((fput k l).getD i 0).toNat := by
        intro hq
        apply hv
        have := UInt8.toNat_inj.1 hq
        rw [this, List.getD_eq_getElem?_getD, List.getElem?_eq_getElem hil]
        rfl
      simp only [gset] at hc
      have b4 := ((fput k l).getD (4 + l.length) 0).toNat_lt
      have b5 := ((fput k l).getD (5 + l.length) 0).toNat_lt
      have b6 := ((fput k l).getD (6 + l.length) 0).toNat_lt
      have b7 := ((fput k l).getD (7 + l.length) 0).toNat_lt
      have bv := v.toNat_lt
      have hcase : i = 4 + l.length ∨ i = 5 + l.length ∨ i = 6 + l.length ∨ i = 7 + l.length := by omega
      rcases hcase with e | e | e | e
      · rw [if_pos e, if_neg (by omega), if_neg (by omega), if_neg (by omega)] at hc
        rw [e] at hvn
        omega
      · rw [if_neg (by omega), if_pos e, if_neg (by omega), if_neg (by omega)] at hc
        rw [e] at hvn
        omega
      · rw [if_neg (by omega), if_neg (by omega), if_pos e, if_neg (by omega)] at hc
        rw [e] at hvn
        omega
      · rw [if_neg (by omega), if_neg (by omega), if_neg (by omega), if_pos e] at hc
        rw [e] at hvn
        omega
  unfold getE
  rw [h2, if_neg (by omega), if_neg (by rw [h0]; simp), if_neg (by omega), if_neg (by omega), if_neg (by omega), if_pos hne]
end Go.Proofs.YtddcfgbembjbhaaDoor
