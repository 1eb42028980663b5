/- The plain mathematics of a check sum of 32 bits: bytes, registers, what is unlike; no program, no memory. -/
namespace Go.Proofs.YtddcfgbembjbhaaDoor.Crc

def poly : BitVec 32 := 0xedb88320#32
/-- One bit. -/
def f (r : BitVec 32) : BitVec 32 := (r >>> 1) ^^^ (if r.getLsbD 0 then poly else 0#32)
def f4 (r : BitVec 32) : BitVec 32 := f (f (f (f r)))
def f8 (r : BitVec 32) : BitVec 32 := f4 (f4 r)

theorem f_zero : f 0#32 = 0#32 := by decide
theorem f_xor (a b : BitVec 32) : f (a ^^^ b) = f a ^^^ f b := by
  unfold f
  rw [BitVec.ushiftRight_xor_distrib, BitVec.getLsbD_xor]
  have lc : ∀ x y z : BitVec 32, x ^^^ (y ^^^ z) = y ^^^ (x ^^^ z) := fun x y z => by rw [← BitVec.xor_assoc, BitVec.xor_comm x y, BitVec.xor_assoc]
  cases a.getLsbD 0 <;> cases b.getLsbD 0 <;> simp only [Bool.false_eq_true, if_true, if_false, Bool.bne_true, Bool.bne_false, Bool.not_true, Bool.not_false, BitVec.xor_zero]
  · rw [BitVec.xor_assoc]
  · rw [BitVec.xor_assoc, BitVec.xor_assoc, BitVec.xor_comm (b >>> 1)]
  · rw [BitVec.xor_assoc, lc poly, BitVec.xor_self, BitVec.xor_zero]
theorem f4_xor (a b : BitVec 32) : f4 (a ^^^ b) = f4 a ^^^ f4 b := by simp only [f4, f_xor]
theorem f8_xor (a b : BitVec 32) : f8 (a ^^^ b) = f8 a ^^^ f8 b := by simp only [f8, f4_xor]
theorem f_of_even (a : BitVec 32) (h : a.getLsbD 0 = false) : f a = a >>> 1 := by unfold f; rw [h]; simp

theorem f_eq_zero (x : BitVec 32) (h : f x = 0#32) : x = 0#32 := by
  unfold f at h
  by_cases hb : x.getLsbD 0 = true
  · rw [if_pos hb] at h
    have h31 := congrArg (fun v => v.getLsbD 31) h
    simp [poly] at h31
  · have hb' : x.getLsbD 0 = false := by simpa using hb
    rw [if_neg hb] at h
    simp at h
    apply BitVec.eq_of_getLsbD_eq
    intro i hi
    rcases Nat.eq_zero_or_pos i with rfl | hp
    · simpa using hb'
    · have := congrArg (fun v => v.getLsbD (i - 1)) h
      simp [BitVec.getLsbD_ushiftRight] at this
      rw [show 1 + (i - 1) = i from by omega] at this
      simpa using this
theorem xor_eq_zero {a b : BitVec 32} (h : a ^^^ b = 0#32) : a = b := by
  have : (a ^^^ b) ^^^ b = 0#32 ^^^ b := by rw [h]
  simpa [BitVec.xor_assoc] using this
theorem f_inj {a b : BitVec 32} (h : f a = f b) : a = b := by
  apply xor_eq_zero
  apply f_eq_zero
  rw [f_xor, h, BitVec.xor_self]
theorem f4_inj {a b : BitVec 32} (h : f4 a = f4 b) : a = b := f_inj (f_inj (f_inj (f_inj h)))
theorem f8_inj {a b : BitVec 32} (h : f8 a = f8 b) : a = b := f4_inj (f4_inj h)

/-- The sixteen. -/
def four (n : Nat) : BitVec 32 := f4 (BitVec.ofNat 32 n)

theorem f4_shl (x : BitVec 32) : f4 (x <<< 4) = (x <<< 4) >>> 4 := by
  have h0 : (x <<< 4).getLsbD 0 = false := by simp
  have h1 : ((x <<< 4) >>> 1).getLsbD 0 = false := by simp
  have h2 : ((x <<< 4) >>> 1 >>> 1).getLsbD 0 = false := by simp
  have h3 : ((x <<< 4) >>> 1 >>> 1 >>> 1).getLsbD 0 = false := by simp
  unfold f4
  rw [f_of_even _ h0, f_of_even _ h1, f_of_even _ h2, f_of_even _ h3]
  simp only [← BitVec.shiftRight_add]
theorem split4 (r : BitVec 32) : r = ((r >>> 4) <<< 4) ^^^ (r &&& 15#32) := by
  apply BitVec.eq_of_getLsbD_eq
  intro i hi
  simp [BitVec.getLsbD_xor, BitVec.getLsbD_shiftLeft, BitVec.getLsbD_ushiftRight, BitVec.getLsbD_and]
  have h15 : (15#32).getLsbD i = decide (i < 4) := by
    have : ∀ j : Fin 32, (15#32).getLsbD j.val = decide (j.val < 4) := by decide
    exact this ⟨i, hi⟩
  rw [h15]
  by_cases h : i < 4
  · simp [h]
  · simp [h, hi, show 4 + (i - 4) = i from by omega]
theorem f4_table (r : BitVec 32) : f4 r = (r >>> 4) ^^^ four (r.toNat % 16) := by
  have e : r &&& 15#32 = BitVec.ofNat 32 (r.toNat % 16) := by
    apply BitVec.eq_of_toNat_eq
    rw [BitVec.toNat_and]
    have : (15#32).toNat = 2 ^ 4 - 1 := rfl
    rw [this, Nat.and_two_pow_sub_one_eq_mod, BitVec.toNat_ofNat]
    omega
  have h4 : ((r >>> 4) <<< 4) >>> 4 = r >>> 4 := by
    apply BitVec.eq_of_getLsbD_eq
    intro i hi
    simp [BitVec.getLsbD_shiftLeft, BitVec.getLsbD_ushiftRight]
    intro h
    by_cases hh : 4 + i < 32
    · exact hh
    · have : r.getLsbD (4 + i) = false := BitVec.getLsbD_of_ge _ _ (by omega)
      rw [this] at h; cases h
  conv => lhs; rw [split4 r]
  rw [f4_xor, f4_shl, h4, e, four]


/-- A byte in 32 bits. -/
def wide (b : UInt8) : BitVec 32 := BitVec.ofNat 32 b.toNat
/-- The register behind a byte. -/
def step (r : BitVec 32) (b : UInt8) : BitVec 32 := f8 (r ^^^ wide b)
def reg (r : BitVec 32) (l : List UInt8) : BitVec 32 := l.foldl step r
/-- The sum of more behind a sum's. -/
def add (s : BitVec 32) (l : List UInt8) : BitVec 32 := ~~~ (reg (~~~ s) l)

theorem reg_append (r : BitVec 32) (a b : List UInt8) : reg r (a ++ b) = reg (reg r a) b := List.foldl_append
theorem add_append (s : BitVec 32) (a b : List UInt8) : add s (a ++ b) = add (add s a) b := by
  simp [add, reg_append]
theorem add_nil (s : BitVec 32) : add s [] = s := by simp [add, reg]

theorem wide_inj {a b : UInt8} (h : wide a = wide b) : a = b := by
  have := congrArg BitVec.toNat h
  have ha := a.toNat_lt
  have hb := b.toNat_lt
  simp [wide] at this
  apply UInt8.toNat_inj.1
  omega
theorem xor_inj {r a b : BitVec 32} (h : r ^^^ a = r ^^^ b) : a = b := by
  have : r ^^^ (r ^^^ a) = r ^^^ (r ^^^ b) := by rw [h]
  simpa [← BitVec.xor_assoc] using this
theorem step_inj {r s : BitVec 32} {b : UInt8} (h : step r b = step s b) : r = s := by
  have := f8_inj h
  rw [BitVec.xor_comm r, BitVec.xor_comm s] at this
  exact xor_inj this
theorem reg_inj (l : List UInt8) : ∀ {r s : BitVec 32}, reg r l = reg s l → r = s := by
  induction l with
  | nil => intro r s h; exact h
  | cons b l ih => intro r s h; exact step_inj (ih h)
theorem not_inj {a b : BitVec 32} (h : ~~~ a = ~~~ b) : a = b := by
  have := congrArg (fun v => ~~~ v) h
  simpa using this
/-- One byte was changed. -/
theorem add_one_ne (s : BitVec 32) (a b : List UInt8) {x y : UInt8} (h : x ≠ y) : add s (a ++ x :: b) ≠ add s (a ++ y :: b) := by
  intro he
  apply h
  have := not_inj he
  rw [reg_append, reg_append] at this
  exact wide_inj (xor_inj (f8_inj (reg_inj b this)))

/-- Four bytes, the first one lowest. -/
def word (a b c d : UInt8) : BitVec 32 := wide a ^^^ (wide b <<< 8) ^^^ (wide c <<< 16) ^^^ (wide d <<< 24)
theorem f8_shl (x : BitVec 32) : f8 (x <<< 8) = (x <<< 8) >>> 8 := by
  have e : x <<< 8 = (x <<< 4) <<< 4 := by rw [← BitVec.shiftLeft_add]
  have hs : ∀ y : BitVec 32, ((y <<< 4) <<< 4) >>> 4 = (((y <<< 4) <<< 4) >>> 8) <<< 4 := by
    intro y
    apply BitVec.eq_of_getLsbD_eq
    intro i hi
    simp [BitVec.getLsbD_shiftLeft, BitVec.getLsbD_ushiftRight]
    by_cases h : i < 4
    · simp [h]; omega
    · by_cases h2 : 4 + i < 32
      · simp [h, h2, show 8 + (i - 4) = 4 + i from by omega, hi, show 4 + i - 8 = i - 4 from by omega]
      · simp [h2, show 8 + (i - 4) = 4 + i from by omega]
  unfold f8
  rw [e, f4_shl, hs, f4_shl, ← hs, ← BitVec.shiftRight_add]
theorem f8_wide8 (b : UInt8) (k : Nat) (hk : k ≤ 16) : f8 (wide b <<< (k + 8)) = wide b <<< k := by
  rw [BitVec.shiftLeft_add, f8_shl]
  apply BitVec.eq_of_getLsbD_eq
  intro i hi
  have hb : ∀ j, 8 ≤ j → (wide b).getLsbD j = false := by
    intro j hj
    have := b.toNat_lt
    unfold wide
    rw [BitVec.getLsbD_ofNat]
    rw [Nat.testBit_lt_two_pow]
    · simp
    · calc b.toNat < 2 ^ 8 := this
        _ ≤ 2 ^ j := Nat.pow_le_pow_right (by omega) hj
  simp [BitVec.getLsbD_shiftLeft, BitVec.getLsbD_ushiftRight]
  by_cases h : 8 + i < 32
  · simp [h, hi]
  · have : (wide b).getLsbD (i - k) = false := hb _ (by omega)
    simp [h, this]
theorem reg_four (r : BitVec 32) (a b c d : UInt8) : reg r [a, b, c, d] = f8 (f8 (f8 (f8 (r ^^^ word a b c d)))) := by
  have hb1 := f8_wide8 b 0 (by omega)
  have hc1 := f8_wide8 c 8 (by omega)
  have hc2 := f8_wide8 c 0 (by omega)
  have hd1 := f8_wide8 d 16 (by omega)
  have hd2 := f8_wide8 d 8 (by omega)
  have hd3 := f8_wide8 d 0 (by omega)
  simp only [Nat.zero_add, BitVec.shiftLeft_zero, Nat.reduceAdd] at hb1 hc1 hc2 hd1 hd2 hd3
  simp only [reg, List.foldl, step, word, f8_xor, hb1, hc1, hc2, hd1, hd2, hd3, BitVec.xor_assoc]
theorem reg_four_inj {r : BitVec 32} {a b c d a' b' c' d' : UInt8} (h : reg r [a, b, c, d] = reg r [a', b', c', d']) : word a b c d = word a' b' c' d' := by
  rw [reg_four, reg_four] at h
  exact xor_inj (f8_inj (f8_inj (f8_inj (f8_inj h))))
theorem add_four_ne (s : BitVec 32) (l m : List UInt8) {a b c d a' b' c' d' : UInt8} (h : word a b c d ≠ word a' b' c' d') :
    add s (l ++ [a, b, c, d] ++ m) ≠ add s (l ++ [a', b', c', d'] ++ m) := by
  intro he
  apply h
  have := not_inj he
  rw [reg_append, reg_append, reg_append, reg_append] at this
  exact reg_four_inj (reg_inj m this)
/-- A sum's own bytes behind. -/
theorem add_own (s : BitVec 32) (a b c d : UInt8) (h : word a b c d = s) : add s [a, b, c, d] = 0x2144df1c#32 := by
  unfold add
  rw [reg_four, h]
  have e : ~~~ s ^^^ s = 0xffffffff#32 := by
    apply BitVec.eq_of_getLsbD_eq
    intro i hi
    have h1 : (0xffffffff#32).getLsbD i = true := by
      have : ∀ j : Fin 32, (0xffffffff#32).getLsbD j.val = true := by decide
      exact this ⟨i, hi⟩
    rw [h1]
    simp [hi]
  rw [e]
  decide

/-- What is unlike of three. -/
theorem reg_three : ∀ (a b c d : List UInt8) (r s t : BitVec 32), a.length = b.length → a.length = c.length → d = List.zipWith (· ^^^ ·) a (List.zipWith (· ^^^ ·) b c) →
    reg (r ^^^ s ^^^ t) d = reg r a ^^^ reg s b ^^^ reg t c := by
  intro a
  induction a with
  | nil =>
    intro b c d r s t hb hc hd
    cases b <;> cases c <;> simp at hb hc hd
    subst hd; rfl
  | cons x a ih =>
    intro b c d r s t hb hc hd
    cases b with
    | nil => simp at hb
    | cons y b =>
      cases c with
      | nil => simp at hc
      | cons z c =>
        simp at hb hc hd
        subst hd
        have hw : wide (x ^^^ (y ^^^ z)) = wide x ^^^ wide y ^^^ wide z := by
          unfold wide
          apply BitVec.eq_of_toNat_eq
          have hx := x.toNat_lt
          have hy := y.toNat_lt
          have hz := z.toNat_lt
          simp only [BitVec.toNat_xor, BitVec.toNat_ofNat, UInt8.toNat_xor, Nat.xor_assoc]
          have : x.toNat ^^^ (y.toNat ^^^ z.toNat) < 2 ^ 32 := Nat.xor_lt_two_pow (by omega) (Nat.xor_lt_two_pow (by omega) (by omega))
          rw [Nat.mod_eq_of_lt this, Nat.mod_eq_of_lt (by omega : x.toNat < 2 ^ 32), Nat.mod_eq_of_lt (by omega : y.toNat < 2 ^ 32), Nat.mod_eq_of_lt (by omega : z.toNat < 2 ^ 32)]
        have hs : step (r ^^^ s ^^^ t) (x ^^^ (y ^^^ z)) = step r x ^^^ step s y ^^^ step t z := by
          unfold step
          rw [hw, ← f8_xor, ← f8_xor]
          congr 1
          ac_rfl
        show reg (step (r ^^^ s ^^^ t) (x ^^^ (y ^^^ z))) _ = _
        rw [hs]
        exact ih b c _ _ _ _ hb hc rfl

end Go.Proofs.YtddcfgbembjbhaaDoor.Crc
