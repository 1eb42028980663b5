/- Frames: the document's Get. -/
import Derived.Test.YtddcfgbembjbhaaDoorFrame5
namespace Go.Proofs.YtddcfgbembjbhaaDoor
open Go.RowKit
set_option linter.unusedVariables false
theorem i64_or_nat (a b : Nat) (ha : a < 9223372036854775808) (hb : b < 9223372036854775808) : bits .or .i64 (a : Int) (b : Int) = ((a ||| b : Nat) : Int) := by
  have hx : a ||| b < 2 ^ 63 := Nat.or_lt_two_pow (by omega) (by omega)
  have e : ∀ x : Nat, x < 9223372036854775808 → (BitVec.ofInt 64 (x : Int)).toNat = x := fun x h => by
    rw [BitVec.ofInt_natCast, BitVec.toNat_ofNat]; exact Nat.mod_eq_of_lt (by omega)
  show IntKind.i64.wrap ((BitVec.ofInt 64 (a : Int) ||| BitVec.ofInt 64 (b : Int)).toNat : Int) = _
  rw [BitVec.toNat_or, e a ha, e b hb]
  exact IntWalk.i64_in _ (by omega)
theorem or_add (a b k : Nat) (hb : b < 2 ^ k) : a * 2 ^ k ||| b = a * 2 ^ k + b := by
  have := Nat.shiftLeft_add_eq_or_of_lt hb a
  rw [Nat.shiftLeft_eq] at this
  exact this.symm
theorem or_two (a b : UInt8) : bits .or .i64 ((a.toNat : Int) * 256) (b.toNat : Int) = ((a.toNat * 256 + b.toNat : Nat) : Int) := by
  have ha := a.toNat_lt
  have hb := b.toNat_lt
  have e : (a.toNat : Int) * 256 = ((a.toNat * 256 : Nat) : Int) := by omega
  rw [e, i64_or_nat _ _ (by omega) (by omega)]
  have := or_add a.toNat b.toNat 8 hb
  rw [show (2 : Nat) ^ 8 = 256 from rfl] at this
  rw [this]
theorem or_four (a b c d : UInt8) : bits .or .u32 (bits .or .u32 (bits .or .u32 ((a.toNat : Int) * 16777216) ((b.toNat : Int) * 65536)) ((c.toNat : Int) * 256)) (d.toNat : Int) = (numOf [a, b, c, d] : Int) := by
  have ha := a.toNat_lt
  have hb := b.toNat_lt
  have hc := c.toNat_lt
  have hd := d.toNat_lt
  have e1 : (a.toNat : Int) * 16777216 = ((a.toNat * 16777216 : Nat) : Int) := by omega
  have e2 : (b.toNat : Int) * 65536 = ((b.toNat * 65536 : Nat) : Int) := by omega
  have e3 : (c.toNat : Int) * 256 = ((c.toNat * 256 : Nat) : Int) := by omega
  have o1 := or_add a.toNat (b.toNat * 65536) 24 (by omega)
  have o2 := or_add (a.toNat * 256 + b.toNat) (c.toNat * 256) 16 (by omega)
  have o3 := or_add ((a.toNat * 256 + b.toNat) * 256 + c.toNat) d.toNat 8 (by omega)
  simp only [Nat.reducePow] at o1 o2 o3
  rw [e1, e2, e3, u32_or_nat _ _ (by omega) (by omega), o1, show a.toNat * 16777216 + b.toNat * 65536 = (a.toNat * 256 + b.toNat) * 65536 by omega, u32_or_nat _ _ (by omega) (by omega), o2,
    show (a.toNat * 256 + b.toNat) * 65536 + c.toNat * 256 = ((a.toNat * 256 + b.toNat) * 256 + c.toNat) * 256 by omega, u32_or_nat _ _ (by omega) (by omega), o3, numOf_four]
theorem take4 (q : List UInt8) (N : Nat) (h : N + 8 ≤ q.length) : (q.drop (4 + N)).take 4 = [q.getD (N + 4) 0, q.getD (N + 5) 0, q.getD (N + 6) 0, q.getD (N + 7) 0] := by
  apply List.ext_getElem?
  intro j
  have e : ∀ i, i < q.length → q[i]? = some (q.getD i 0) := fun i hi => by rw [List.getD_eq_getElem?_getD, List.getElem?_eq_getElem hi]; rfl
  rw [List.getElem?_take, List.getElem?_drop]
  rcases j with _ | _ | _ | _ | j
  · rw [if_pos (by omega), e _ (by omega), show 4 + N + 0 = N + 4 by omega]; rfl
  · rw [if_pos (by omega), e _ (by omega), show 4 + N + (0 + 1) = N + 5 by omega]; rfl
  · rw [if_pos (by omega), e _ (by omega), show 4 + N + (0 + 1 + 1) = N + 6 by omega]; rfl
  · rw [if_pos (by omega), e _ (by omega), show 4 + N + (0 + 1 + 1 + 1) = N + 7 by omega]; rfl
  · rw [if_neg (by omega)]; rfl
theorem BytesAt.cellD {w : World} {B n b o : Nat} {l : List UInt8} (h : BytesAt w B (some ⟨b, o, none⟩) n l) (i : Nat) (hi : i < n) : w.cell? ⟨b, o + i, none⟩ = some (.int .u8 ((l.getD i 0).toNat : Int)) := by
  obtain ⟨b', o', e, _, hc⟩ := h.cell i hi
  injection e with e
  injection e with e1 e2
  subst e1 e2
  exact hc
theorem got_ok8 {w w' : World} {l r : List UInt8} {i : Int} {x : UInt8} {N c : Nat} {A : Option Addr} (hD : getAll l i = (getK r, getB r, getN r i, getE r)) (hE : getE r = 0) (hx : byteAt r 1 = x) (hN : num2 r = N)
    (ho : OwnB w' w.heap.size A N c ((r.drop 4).take N)) (hb : Below w.heap.size w w') : Got w l i (.returned (.tuple #[.int .u8 (x.toNat : Int), .slice A N c, .int .i64 (i + (N : Int) + 8), .int .i64 0])) w' := by
  have := got_ok hD hE hx hN ho hb
  rwa [show i + 4 + (N : Int) + 4 = i + (N : Int) + 8 by omega] at this
set_option maxRecDepth 100000 in
set_option maxHeartbeats 6000000 in
theorem refGet (A : Option Addr) (n c : Nat) (l : List UInt8) (i : Int) (B : Nat) (w : World) (hr : BytesAt w B A n l) (hB : B ≤ w.heap.size) (hn : n ≤ 140737488351232) (hc : n ≤ c) :
    Calls Tryd.prog 50 #[.slice A n c, .int .i64 i] w (Got w l i) := by
  have hl := hr.1
  by_cases h0 : i < 0
  · have hg := Lib.hid (show getAll l i = (0, [], 0, 1) by unfold getAll; rw [if_pos (.inl h0)])
    clear hr hl
    go_enter Tryd.func50, Tryd.ntmps50
    go_wp2
    refine bodyPost_ret (results_tmp4 rfl _ _ _) rfl ?_
    exact got_err hg.out (Below.refl _ _)
  by_cases h1 : (n : Int) < i
  · have hg := Lib.hid (show getAll l i = (0, [], 0, 1) by unfold getAll; rw [if_pos (.inr (by omega))])
    clear hr hl
    go_enter Tryd.func50, Tryd.ntmps50
    go_wp2
    refine bodyPost_ret (results_tmp4 rfl _ _ _) rfl ?_
    exact got_err hg.out (Below.refl _ _)
  obtain ⟨j, rfl⟩ := Int.eq_ofNat_of_zero_le (show 0 ≤ i by omega)
  have hj : j ≤ n := by omega
  by_cases h2 : j = n
  · have hg := Lib.hid (getAll_err (l := l) (i := j) (x := 31) (by omega) (by unfold getE; rw [if_pos (by simp; omega)]) (by decide))
    subst h2
    have HR := Lib.hid hr
    clear hr hl
    go_enter Tryd.func50, Tryd.ntmps50
    rcases A with _ | a
    · have hj0 : j = 0 := by
        rcases Nat.eq_zero_or_pos j with h | h
        · exact h
        · obtain ⟨_, _, e, _⟩ := HR.out.some_of h
          cases e
      subst hj0
      go_wp2
      refine bodyPost_ret (results_tmp4 rfl _ _ _) rfl ?_
      exact got_err hg.out (Below.refl _ _)
    · go_wp2
      all_goals refine bodyPost_ret (results_tmp4 rfl _ _ _) rfl ?_
      all_goals exact got_err hg.out (Below.refl _ _)
  obtain ⟨b, o, rfl, hbB⟩ := hr.some_of (by omega)
  have hrest : BytesAt w B (some ⟨b, o + j, none⟩) (n - j) ((l.drop j).take (n - j)) := hr.win j (n - j) (by omega)
  have hll : (l.drop j).take (n - j) = l.drop j := List.take_of_length_le (by rw [List.length_drop]; omega)
  rw [hll] at hrest
  have hrl : (l.drop j).length = n - j := by rw [List.length_drop]; omega
  have HD := Lib.hid (show getAll l (j : Int) = (getK (l.drop j), getB (l.drop j), getN (l.drop j) j, getE (l.drop j)) by unfold getAll; rw [if_neg (by omega), Int.toNat_natCast])
  have HE := Lib.hid (fun (x : Int) (h : getE (l.drop j) = x) (hx : x ≠ 0) => getAll_err (l := l) (i := j) (x := x) (by omega) h hx)
  generalize hR : l.drop j = r at *
  clear hR hll
  have hm0 : 0 < n - j := by omega
  have hcj : c ≠ j := by omega
  have hcell := fun (t : Nat) (ht : t < n - j) => (hrest.cell t ht)
  obtain ⟨b', o', e', _, hc0⟩ := hcell 0 hm0
  injection e' with e'
  injection e' with e1 e2
  subst e1 e2
  rw [Nat.add_zero] at hc0
  have hE0 : ¬ r.length = 0 := by omega
  clear hr hl
  by_cases h3 : (r.getD 0 0) = 247
  rotate_left
  · have hg := Lib.hid (HE.out 32 (by unfold getE byteAt; rw [if_neg hE0, if_pos h3]) (by decide))
    have hne : (((r.getD 0 0).toNat : Int) == 247) = false := by
      rw [beq_eq_false_iff_ne]
      intro h
      apply h3
      apply UInt8.toNat_inj.1
      have : (r.getD 0 0).toNat = 247 := by omega
      rw [this]
      rfl
    generalize r.getD 0 0 = x at *
    have HR := Lib.hid hrest
    clear hrest hcell hrl hE0
    go_enter Tryd.func50, Tryd.ntmps50
    go_wp2
    refine bodyPost_ret (results_tmp4 rfl _ _ _) rfl ?_
    exact got_err hg.out (Below.refl _ _)
  have h247 : ((r.getD 0 0).toNat : Int) = 247 := by rw [h3]; rfl
  rw [h247] at hc0
  have HX := Lib.hid h3
  clear h247 h3
  by_cases h4 : n - j < 8
  · have hg := Lib.hid (HE.out 31 (by unfold getE byteAt; rw [if_neg hE0, if_neg (by simpa using HX.out), if_pos (by omega)]) (by decide))
    have HR := Lib.hid hrest
    clear hrest hcell hrl hE0
    go_enter Tryd.func50, Tryd.ntmps50
    go_wp2
    refine bodyPost_ret (results_tmp4 rfl _ _ _) rfl ?_
    exact got_err hg.out (Below.refl _ _)
  have f2 := hrest.cellD 2 (by omega)
  have f3 := hrest.cellD 3 (by omega)
  have i2 : (2 : Int) < ((n - j : Nat) : Int) := by omega
  have i3 : (3 : Int) < ((n - j : Nat) : Int) := by omega
  have hN2 : Hid (num2 r = (r.getD 2 0).toNat * 256 + (r.getD 3 0).toNat) := Lib.hid (by
    have h2 : (r.drop 2).take 2 = [r.getD 2 0, r.getD 3 0] := by
      rcases r with _ | ⟨a, _ | ⟨b, _ | ⟨c, _ | ⟨d, rest⟩⟩⟩⟩
      iterate 4 (simp at hrl; omega)
      rfl
    unfold num2
    rw [h2, numOf_two])
  have hb2 := (r.getD 2 0).toNat_lt
  have hb3 := (r.getD 3 0).toNat_lt
  have HY2 : Hid (r.getD 2 0 = r.getD 2 0) := Lib.hid rfl
  have eN := or_two (r.getD 2 0) (r.getD 3 0)
  rw [← hN2.out] at eN
  generalize r.getD 2 0 = y2 at *
  generalize r.getD 3 0 = y3 at *
  have hlt2 : num2 r < 65536 := by rw [hN2.out]; omega
  have hE1 := Lib.hid (show ∀ X : Int, (if 8192 < num2 r then (2 : Int) else if r.length < num2 r + 8 then 31 else if (Crc.add 0 (mid r)).toNat ≠ num4 r then 33 else 0) = X → getE r = X by
    intro X hX
    unfold getE byteAt
    rw [if_neg hE0, if_neg (by simpa using HX.out), if_neg (by omega)]
    exact hX)
  generalize hNN : num2 r = N at *
  clear HY2
  by_cases h5 : 8192 < N
  · have hg := Lib.hid (HE.out 2 (hE1.out 2 (by rw [if_pos h5])) (by decide))
    have HR := Lib.hid hrest
    clear hrest hcell hrl hE0 HE hNN
    go_enter Tryd.func50, Tryd.ntmps50
    go_wp2
    go_quiet (fail)
    go_wp2
    refine bodyPost_ret (results_tmp4 rfl _ _ _) rfl ?_
    exact got_err hg.out (below_draws (Below.refl _ _) _)
  have w8 : IntKind.i64.wrap ((N : Int) + 8) = (N : Int) + 8 := IntWalk.i64_in _ (by omega)
  by_cases h6 : n - j < N + 8
  · have hg := Lib.hid (HE.out 31 (hE1.out 31 (by rw [if_neg h5, if_pos (by omega)])) (by decide))
    have HR := Lib.hid hrest
    clear hrest hcell hrl hE0 HE hNN
    go_enter Tryd.func50, Tryd.ntmps50
    go_wp2
    go_quiet (fail)
    go_wp2
    refine bodyPost_ret (results_tmp4 rfl _ _ _) rfl ?_
    exact got_err hg.out (below_draws (Below.refl _ _) _)
  have f4 := hrest.cellD (N + 4) (by omega)
  have f5 := hrest.cellD (N + 5) (by omega)
  have f6 := hrest.cellD (N + 6) (by omega)
  have f7 := hrest.cellD (N + 7) (by omega)
  have i4 : (N : Int) + 4 < ((n - j : Nat) : Int) := by omega
  have i5 : (N : Int) + 5 < ((n - j : Nat) : Int) := by omega
  have i6 : (N : Int) + 6 < ((n - j : Nat) : Int) := by omega
  have i7 : (N : Int) + 7 < ((n - j : Nat) : Int) := by omega
  have g4 : (0 : Int) ≤ (N : Int) + 4 := by omega
  have g5 : (0 : Int) ≤ (N : Int) + 5 := by omega
  have g6 : (0 : Int) ≤ (N : Int) + 6 := by omega
  have g7 : (0 : Int) ≤ (N : Int) + 7 := by omega
  have t4 : ((N : Int) + 4).toNat = N + 4 := by omega
  have t5 : ((N : Int) + 5).toNat = N + 5 := by omega
  have t6 : ((N : Int) + 6).toNat = N + 6 := by omega
  have t7 : ((N : Int) + 7).toNat = N + 7 := by omega
  have w4 : IntKind.i64.wrap ((N : Int) + 4) = (N : Int) + 4 := IntWalk.i64_in _ (by omega)
  have w5 : IntKind.i64.wrap ((N : Int) + 5) = (N : Int) + 5 := IntWalk.i64_in _ (by omega)
  have w6 : IntKind.i64.wrap ((N : Int) + 6) = (N : Int) + 6 := IntWalk.i64_in _ (by omega)
  have w7 : IntKind.i64.wrap ((N : Int) + 7) = (N : Int) + 7 := IntWalk.i64_in _ (by omega)
  have eM : bits .or .u32 (bits .or .u32 (bits .or .u32 (((r.getD (N + 4) 0).toNat : Int) * 16777216) (((r.getD (N + 5) 0).toNat : Int) * 65536)) (((r.getD (N + 6) 0).toNat : Int) * 256)) ((r.getD (N + 7) 0).toNat : Int) = (num4 r : Int) := by
    rw [or_four, ← take4 r N (by omega)]
    unfold num4
    rw [hNN]
  generalize r.getD (N + 4) 0 = z4 at *
  generalize r.getD (N + 5) 0 = z5 at *
  generalize r.getD (N + 6) 0 = z6 at *
  generalize r.getD (N + 7) 0 = z7 at *
  have bz4 := z4.toNat_lt
  have bz5 := z5.toNat_lt
  have bz6 := z6.toNat_lt
  have bz7 := z7.toNat_lt
  have HM : Hid (BytesAt w B (some ⟨b, o + j + 1, none⟩) (N + 3) (mid r)) := Lib.hid (by have := hrest.win 1 (3 + N) (by omega); unfold mid; rw [hNN, Nat.add_comm N 3]; exact this)
  have QS : Hid (∀ (W : World) (m cc : Nat), Below w.heap.size w W → m = N + 3 → Calls Tryd.prog 31 #[.slice (some ⟨b, o + j + 1, none⟩) m cc] W fun e w'' => e = .returned (.int .u32 ((Crc.add 0 (mid r)).toNat : Int)) ∧ W = w'') :=
    Lib.hid fun W m cc hb hm => by subst hm; exact refSum _ _ cc _ B W (HM.out.below (hb.mono hB)) (by omega)
  have hE2 : Hid (∀ X : Int, (if (Crc.add 0 (mid r)).toNat ≠ num4 r then (33 : Int) else 0) = X → getE r = X) := Lib.hid (fun X hX => hE1.out X (by rw [if_neg h5, if_neg (show ¬ r.length < N + 8 by omega)]; exact hX))
  have HR := Lib.hid hrest
  have HB : Hid (BytesAt w B (some ⟨b, o + j + 4, none⟩) N ((r.drop 4).take N)) := Lib.hid (hrest.win 4 N (by omega))
  have hcx := hrest.cellD 1 (by omega)
  have HK : Hid (r.getD 1 0 = byteAt r 1) := Lib.hid rfl
  rw [HK.out] at hcx
  generalize hXX : byteAt r 1 = x1 at *
  have HX1 := Lib.hid hXX
  have HNN := Lib.hid hNN
  have HR := Lib.hid hrest
  clear hrest hcell hrl hE0 hE1 hXX hNN
  generalize hS : (Crc.add 0 (mid r)).toNat = S at *
  generalize num4 r = M at *
  clear hS
  by_cases h7 : S = M
  rotate_left
  · have hg := Lib.hid (HE.out 33 (hE2.out 33 (by rw [if_pos h7])) (by decide))
    have hne : ((S : Int) != (M : Int)) = true := by simp; omega
    clear HE hE2 h7
    go_enter Tryd.func50, Tryd.ntmps50
    go_wp2
    go_quiet (fail)
    go_wp2
    go_quiet (fail)
    go_wp2_with (go_at_call 31; refine (QS.out _ _ _ (below_draws (Below.refl _ _) _) (by omega)).mono ?_; rintro e w' ⟨rfl, rfl⟩)
    refine bodyPost_ret (results_tmp4 rfl _ _ _) rfl ?_
    exact got_err hg.out (below_draws (Below.refl _ _) _)
  have hne : ((S : Int) != (M : Int)) = false := by simp; omega
  go_enter Tryd.func50, Tryd.ntmps50
  go_wp2
  go_quiet (fail)
  go_wp2
  rename Nat => nq0
  go_quiet (fail)
  go_wp2_with (go_at_call 31; refine (QS.out _ _ _ (below_draws (Below.refl _ _) _) (by omega)).mono ?_; rintro e w' ⟨rfl, rfl⟩)
  have w9 : IntKind.i64.wrap ((j : Int) + (N : Int)) = (j : Int) + (N : Int) := IntWalk.i64_in _ (by omega)
  have w10 : IntKind.i64.wrap ((j : Int) + (N : Int) + 8) = (j : Int) + (N : Int) + 8 := IntWalk.i64_in _ (by omega)
  have HG := Lib.hid (show getE r = 0 from hE2.out 0 (by rw [if_neg (by simpa using h7)]))
  obtain ⟨W5, hw5⟩ : ∃ W5, W5 = w.drewN (nq0 + nq) := ⟨_, rfl⟩
  rw [← hw5]
  have bw5 : Below w.heap.size w W5 := by rw [hw5]; exact below_draws (Below.refl _ _) _
  have hsz5 : w.heap.size ≤ W5.heap.size := by rw [hw5]; exact Nat.le_refl _
  clear hw5
  have HST : Hid (W5.drew.cell? ⟨b, o + j + 1, none⟩ = some (.int .u8 (x1.toNat : Int)) ∧ Below w.heap.size w W5.drew) := Lib.hid ⟨(bw5.cell (p := ⟨b, o + j + 1, none⟩) (by show b < _; omega)).trans hcx, bw5.drew⟩
  have hstep : ∀ (U V : World), Below w.heap.size U V → (U.cell? ⟨b, o + j + 1, none⟩ = some (.int .u8 (x1.toNat : Int)) ∧ Below w.heap.size w U) → (V.cell? ⟨b, o + j + 1, none⟩ = some (.int .u8 (x1.toNat : Int)) ∧ Below w.heap.size w V) :=
    fun U V h3 h => ⟨(h3.cell (p := ⟨b, o + j + 1, none⟩) (by show b < _; omega)).trans h.1, h.2.trans h3⟩
  have hstep := Lib.hid hstep
  have hstepA : ∀ (U : World) (ob : Obj), (U.cell? ⟨b, o + j + 1, none⟩ = some (.int .u8 (x1.toNat : Int)) ∧ Below w.heap.size w U) → ((U.alloc ob).cell? ⟨b, o + j + 1, none⟩ = some (.int .u8 (x1.toNat : Int)) ∧ Below w.heap.size w (U.alloc ob)) :=
    fun U ob h => hstep.out _ _ ((Below.refl _ U).alloc h.2.size ob) h
  have hstepA := Lib.hid hstepA
  have HE9 : Hid (OwnB (W5.drew.alloc (.cells #[] 5)) W5.heap.size (some ⟨W5.heap.size, 0, none⟩) 0 0 []) := Lib.hid (OwnB.empty W5.drew W5.heap.size _ rfl (Nat.le_refl _))
  have HB9 : Hid (BytesAt (W5.drew.alloc (.cells #[] 5)) B (some ⟨b, o + j + 4, none⟩) N ((r.drop 4).take N)) := Lib.hid (HB.out.below ((bw5.drew.alloc (show w.heap.size ≤ W5.heap.size by omega) _).mono hB))
  have i1 : (1 : Int) < ((n - j : Nat) : Int) := by omega
  have a2 : (0 : Int) ≤ (N : Int) + 4 := by omega
  have a3 : (N : Int) + 4 ≤ ((c - j : Nat) : Int) := by omega
  have a4 : (4 : Int) ≤ (N : Int) + 4 := by omega
  have a5 : ¬ c - j = 4 := by omega
  have a6 : N + 4 - 4 = N := by omega
  go_region_held3 (fun w' => w'.cell? ⟨b, o + j + 1, none⟩ = some (.int .u8 (x1.toNat : Int)) ∧ Below w.heap.size w w')
    ((first | exact HST.out | assumption | exact hstep.out _ _ (by assumption) (by assumption) | exact hstepA.out _ _ (by assumption)))
    ((first | (refine step_append_bytes (by rfl) (.tmp 89) (.tmp 93) (by rfl) (by rfl) HE9.out (by rfl) HB9.out (by omega) (by simp) ?_; intro A9 c9 w9' ho9 hg9 hat9; have hb9 : Below W5.heap.size (W5.drew.alloc (.cells #[] 5)) w9' := (Below.refl _ _).grown hg9 (by simp) (by intro k hk; simp at hk; omega); replace hb9 := hb9.mono hsz5)))
  go_wp2
  refine bodyPost_ret (results_tmp4 rfl _ _ _) rfl ?_
  have hh : w9'.cell? ⟨b, o + j + 1, none⟩ = some (.int .u8 (x1.toNat : Int)) ∧ Below w.heap.size w w9' := by assumption
  simp only [Nat.zero_add, List.nil_append] at ho9
  exact got_ok8 HD.out HG.out HX1.out HNN.out (ho9.lower hsz5) hh.2
end Go.Proofs.YtddcfgbembjbhaaDoor
