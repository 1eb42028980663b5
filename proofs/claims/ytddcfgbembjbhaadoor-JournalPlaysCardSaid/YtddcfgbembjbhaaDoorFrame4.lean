/- Frames: the program's Get. -/
import Derived.Test.YtddcfgbembjbhaaDoorFrame3
import Derived.Test.YtddcfgbembjbhaaDoorMem2
import Derived.Deep.QuietTactic
import Derived.BigQuiet
import Derived.Deep.RegionLaw
import Derived.IntWalk
import Derived.Deep.RegionHeld3
import Derived.Outline
namespace Go.Proofs.YtddcfgbembjbhaaDoor
open Go.RowKit
set_option linter.unusedVariables false
theorem results_tmp4 {fn : Func} {t u v x : Tmp} (h : fn.results = #[.tmp t, .tmp u, .tmp v, .tmp x]) (tmps : Array Value) (P : Program) (w : World) :
    (results fn tmps).run P w = .ok (.tuple #[tmps.getD t undef, tmps.getD u undef, tmps.getD v undef, tmps.getD x undef]) w := by
  simp [results, h]
theorem BytesAt.some_of {w : World} {B n : Nat} {A : Option Addr} {l : List UInt8} (h : BytesAt w B A n l) (hn : 0 < n) : ∃ b o, A = some ⟨b, o, none⟩ ∧ b < B := by
  obtain ⟨b, o, e, hb, _⟩ := h.2 hn
  exact ⟨b, o, e, hb⟩
theorem OwnB.lower {w : World} {base base' n c : Nat} {A : Option Addr} {l : List UInt8} (h : OwnB w base' A n c l) (hb : base ≤ base') : OwnB w base A n c l := by
  refine ⟨h.1, ?_⟩
  rcases h.2 with h | ⟨g, cap, cur, e, hg, h⟩
  · exact .inl h
  · exact .inr ⟨g, cap, cur, e, by omega, h⟩
theorem got_ok {w w' : World} {l r : List UInt8} {i : Int} {x : UInt8} {N c : Nat} {A : Option Addr} (hD : getAll l i = (getK r, getB r, getN r i, getE r)) (hE : getE r = 0) (hx : byteAt r 1 = x) (hN : num2 r = N)
    (ho : OwnB w' w.heap.size A N c ((r.drop 4).take N)) (hb : Below w.heap.size w w') : Got w l i (.returned (.tuple #[.int .u8 (x.toNat : Int), .slice A N c, .int .i64 (i + 4 + (N : Int) + 4), .int .i64 0])) w' := by
  subst hN hx
  have e1 : getAll l i = (byteAt r 1, (r.drop 4).take (num2 r), i + num2 r + 8, 0) := by rw [hD]; unfold getK getB getN; rw [hE]; rfl
  refine ⟨A, num2 r, c, ?_, by rw [e1]; exact ho, hb⟩
  rw [e1]
  have : i + 4 + (num2 r : Int) + 4 = i + num2 r + 8 := by omega
  rw [this]
set_option maxRecDepth 100000 in
set_option maxHeartbeats 1000000 in
theorem frameGet (A : Option Addr) (n c : Nat) (l : List UInt8) (i : Int) (B : Nat) (w : World) (hw : 0 < w.heap.size) (ht : Four w) (hr : BytesAt w B A n l) (hB : B ≤ w.heap.size) (hn : n ≤ 140737488351232) (hc : n ≤ c) :
    Calls Tryd.prog 42 #[.slice A n c, .int .i64 i] w (Got w l i) := by
  have hl := hr.1
  by_cases h0 : i < 0
  · have hg := Lib.hid (show getAll l i = (0, [], 0, 1) by unfold getAll; rw [if_pos (.inl h0)])
    clear hr hl
    go_enter Tryd.func42, Tryd.ntmps42
    go_wp2
    refine bodyPost_ret (results_tmp4 rfl _ _ _) rfl ?_
    exact got_err hg.out (Below.refl _ _)
  by_cases h1 : (n : Int) < i
  · have hg := Lib.hid (show getAll l i = (0, [], 0, 1) by unfold getAll; rw [if_pos (.inr (by omega))])
    clear hr hl
    go_enter Tryd.func42, Tryd.ntmps42
    go_wp2
    refine bodyPost_ret (results_tmp4 rfl _ _ _) rfl ?_
    exact got_err hg.out (Below.refl _ _)
  obtain ⟨j, rfl⟩ := Int.eq_ofNat_of_zero_le (show 0 ≤ i by omega)
  have hj : j ≤ n := by omega
  by_cases h2 : j = n
  · have hg := Lib.hid (getAll_err (l := l) (i := j) (x := 31) (by omega) (by unfold getE; rw [if_pos (by simp; omega)]) (by decide))
    subst h2
    have HR := Lib.hid hr
    clear hr hl
    go_enter Tryd.func42, Tryd.ntmps42
    rcases A with _ | a
    · have hj0 : j = 0 := by
        rcases Nat.eq_zero_or_pos j with h | h
        · exact h
        · obtain ⟨_, _, e, _⟩ := HR.out.some_of h
          cases e
      subst hj0
      go_wp2
      refine bodyPost_ret (results_tmp4 rfl _ _ _) rfl ?_
      exact got_err hg.out (Below.refl _ _)
    · go_wp2
      all_goals refine bodyPost_ret (results_tmp4 rfl _ _ _) rfl ?_
      all_goals exact got_err hg.out (Below.refl _ _)
  obtain ⟨b, o, rfl, hbB⟩ := hr.some_of (by omega)
  have hrest : BytesAt w B (some ⟨b, o + j, none⟩) (n - j) ((l.drop j).take (n - j)) := hr.win j (n - j) (by omega)
  have hll : (l.drop j).take (n - j) = l.drop j := List.take_of_length_le (by rw [List.length_drop]; omega)
  rw [hll] at hrest
  have hrl : (l.drop j).length = n - j := by rw [List.length_drop]; omega
  have HD := Lib.hid (show getAll l (j : Int) = (getK (l.drop j), getB (l.drop j), getN (l.drop j) j, getE (l.drop j)) by unfold getAll; rw [if_neg (by omega), Int.toNat_natCast])
  have HE := Lib.hid (fun (x : Int) (h : getE (l.drop j) = x) (hx : x ≠ 0) => getAll_err (l := l) (i := j) (x := x) (by omega) h hx)
  generalize hR : l.drop j = r at *
  clear hR hll
  have hm0 : 0 < n - j := by omega
  have hcj : c ≠ j := by omega
  have hcell := fun (t : Nat) (ht : t < n - j) => (hrest.cell t ht)
  obtain ⟨b', o', e', _, hc0⟩ := hcell 0 hm0
  injection e' with e'
  injection e' with e1 e2
  subst e1 e2
  rw [Nat.add_zero] at hc0
  have hE0 : ¬ r.length = 0 := by omega
  clear hr hl
  by_cases h3 : (r.getD 0 0) = 247
  rotate_left
  · have hg := Lib.hid (HE.out 32 (by unfold getE byteAt; rw [if_neg hE0, if_pos h3]) (by decide))
    have hne : (((r.getD 0 0).toNat : Int) == 247) = false := by
      rw [beq_eq_false_iff_ne]
      intro h
      apply h3
      apply UInt8.toNat_inj.1
      have : (r.getD 0 0).toNat = 247 := by omega
      rw [this]
      rfl
    generalize r.getD 0 0 = x at *
    have HR := Lib.hid hrest
    clear hrest hcell hrl hE0
    go_enter Tryd.func42, Tryd.ntmps42
    go_wp2
    refine bodyPost_ret (results_tmp4 rfl _ _ _) rfl ?_
    exact got_err hg.out (Below.refl _ _)
  have h247 : ((r.getD 0 0).toNat : Int) = 247 := by rw [h3]; rfl
  rw [h247] at hc0
  have HX := Lib.hid h3
  clear h247 h3
  by_cases h4 : n - j < 8
  · have hg := Lib.hid (HE.out 31 (by unfold getE byteAt; rw [if_neg hE0, if_neg (by simpa using HX.out), if_pos (by omega)]) (by decide))
    have HR := Lib.hid hrest
    clear hrest hcell hrl hE0
    go_enter Tryd.func42, Tryd.ntmps42
    go_wp2
    refine bodyPost_ret (results_tmp4 rfl _ _ _) rfl ?_
    exact got_err hg.out (Below.refl _ _)
  have QN := Lib.hid (fun cc => number (some ⟨b, o + j + 2, none⟩) 2 cc ((r.drop 2).take 2) B w (hrest.win 2 2 (by omega)) (by omega))
  have HN2 : Hid (numOf ((r.drop 2).take 2) = num2 r) := Lib.hid rfl
  rw [HN2.out] at QN
  have hlt2 : num2 r < 65536 := by
    have := numOf_lt ((r.drop 2).take 2)
    rw [← HN2.out]
    have h2 : ((r.drop 2).take 2).length = 2 := by simp; omega
    rw [h2] at this
    omega
  have hE1 := Lib.hid (show ∀ X : Int, (if 8192 < num2 r then (2 : Int) else if r.length < num2 r + 8 then 31 else if (Crc.add 0 (mid r)).toNat ≠ num4 r then 33 else 0) = X → getE r = X by
    intro X hX
    unfold getE byteAt
    rw [if_neg hE0, if_neg (by simpa using HX.out), if_neg (by omega)]
    exact hX)
  generalize hNN : num2 r = N at *
  by_cases h5 : 8192 < N
  · have hg := Lib.hid (HE.out 2 (hE1.out 2 (by rw [if_pos h5])) (by decide))
    have HR := Lib.hid hrest
    clear hrest hcell hrl hE0 HE hNN
    go_enter Tryd.func42, Tryd.ntmps42
    go_wp2_with (go_at_call 73; refine (QN.out _).mono ?_; rintro e w' ⟨rfl, rfl⟩)
    refine bodyPost_ret (results_tmp4 rfl _ _ _) rfl ?_
    exact got_err hg.out (Below.refl _ _)
  by_cases h6 : n - j < N + 8
  · have hg := Lib.hid (HE.out 31 (hE1.out 31 (by rw [if_neg h5, if_pos (by omega)])) (by decide))
    have HR := Lib.hid hrest
    clear hrest hcell hrl hE0 HE hNN
    go_enter Tryd.func42, Tryd.ntmps42
    go_wp2_with (go_at_call 73; refine (QN.out _).mono ?_; rintro e w' ⟨rfl, rfl⟩)
    refine bodyPost_ret (results_tmp4 rfl _ _ _) rfl ?_
    exact got_err hg.out (Below.refl _ _)
  have HM : Hid (BytesAt w B (some ⟨b, o + j + 1, none⟩) (3 + N) (mid r)) := Lib.hid (by have := hrest.win 1 (3 + N) (by omega); unfold mid; rw [hNN]; exact this)
  have HT : Hid (BytesAt w B (some ⟨b, o + j + (4 + N), none⟩) 4 ((r.drop (4 + N)).take 4)) := Lib.hid (hrest.win (4 + N) 4 (by omega))
  have H4 : Hid (numOf ((r.drop (4 + N)).take 4) = num4 r) := Lib.hid (by unfold num4; rw [hNN])
  have QS : Hid (∀ (K m cc : Nat), m = 3 + N → Calls Tryd.prog 30 #[.slice (some ⟨b, o + j + 1, none⟩) m cc] (w.drewN K) fun e w'' => e = .returned (.int .u32 ((Crc.add 0 (mid r)).toNat : Int)) ∧ ∃ m, w'' = w.drewN m) :=
    Lib.hid fun K m cc hm => by subst hm; exact (crcSum _ _ cc _ B (w.drewN K) HM.out (by omega) ht).mono fun e w' ⟨he, hw'⟩ => ⟨he, K, hw'.symm⟩
  have QT : Hid (∀ (K m cc : Nat), m = 4 → Calls Tryd.prog 73 #[.slice (some ⟨b, o + j + (4 + N), none⟩) m cc] (w.drewN K) fun e w'' => e = .returned (.int .i64 (num4 r : Int)) ∧ ∃ m, w'' = w.drewN m) :=
    Lib.hid fun K m cc hm => by subst hm; rw [← H4.out]; exact (number _ 4 cc _ B (w.drewN K) HT.out (by omega)).mono fun e w' ⟨he, hw'⟩ => ⟨he, K, hw'.symm⟩
  have w1 : IntKind.i64.wrap (4 + (N : Int)) = 4 + (N : Int) := IntWalk.i64_in _ (by omega)
  have w2 : IntKind.i64.wrap (4 + (N : Int) + 4) = 4 + (N : Int) + 4 := IntWalk.i64_in _ (by omega)
  have w3 : (4 + (N : Int)).toNat = 4 + N := by omega
  have w4 : (4 + (N : Int) + 4).toNat = 4 + N + 4 := by omega
  have hE2 : Hid (∀ X : Int, (if (Crc.add 0 (mid r)).toNat ≠ num4 r then (33 : Int) else 0) = X → getE r = X) := Lib.hid (fun X hX => hE1.out X (by rw [if_neg h5, if_neg (show ¬ r.length < N + 8 by omega)]; exact hX))
  have HR := Lib.hid hrest
  have HB : Hid (BytesAt w B (some ⟨b, o + j + 4, none⟩) N ((r.drop 4).take N)) := Lib.hid (hrest.win 4 N (by omega))
  obtain ⟨b1, o1, e1, _, hcx⟩ := hcell 1 (by omega)
  injection e1 with e1
  injection e1 with e2 e3
  subst e2 e3
  have HK : Hid (r.getD 1 0 = byteAt r 1) := Lib.hid rfl
  rw [HK.out] at hcx
  generalize hXX : byteAt r 1 = x1 at *
  have HX1 := Lib.hid hXX
  clear hrest hcell hrl hE0 hE1 hXX
  have HNN := Lib.hid hNN
  clear hNN
  generalize hS : (Crc.add 0 (mid r)).toNat = S at *
  generalize num4 r = M at *
  have hSl : S < 4294967296 := by rw [← hS]; exact (Crc.add 0 (mid r)).isLt
  clear hS
  by_cases h7 : S = M
  rotate_left
  · have hg := Lib.hid (HE.out 33 (hE2.out 33 (by rw [if_pos h7])) (by decide))
    have hne : ((S : Int) != (M : Int)) = true := by simp; omega
    clear HE hE2 h7
    go_enter Tryd.func42, Tryd.ntmps42
    go_wp2_with (go_at_call 73; refine (QN.out _).mono ?_; rintro e w' ⟨rfl, rfl⟩)
    go_quiet (first | (go_at_call 30; exact QS.out _ _ _ (by omega)) | (go_at_call 73; exact QT.out _ _ _ (by omega)))
    go_wp2
    refine bodyPost_ret (results_tmp4 rfl _ _ _) rfl ?_
    exact got_err hg.out (below_draws (Below.refl _ _) _)
  · go_enter Tryd.func42, Tryd.ntmps42
    go_wp2_with (go_at_call 73; refine (QN.out _).mono ?_; rintro e w' ⟨rfl, rfl⟩)
    go_quiet (first | (go_at_call 30; exact QS.out _ _ _ (by omega)) | (go_at_call 73; exact QT.out _ _ _ (by omega)))
    go_wp2
    have w5 : IntKind.i64.wrap ((j : Int) + 4) = (j : Int) + 4 := IntWalk.i64_in _ (by omega)
    have w6 : IntKind.i64.wrap ((j : Int) + 4 + (N : Int)) = (j : Int) + 4 + (N : Int) := IntWalk.i64_in _ (by omega)
    have w7 : IntKind.i64.wrap ((j : Int) + 4 + (N : Int) + 4) = (j : Int) + 4 + (N : Int) + 4 := IntWalk.i64_in _ (by omega)
    have HG := Lib.hid (show getE r = 0 from hE2.out 0 (by rw [if_neg (by simpa using h7)]))
    generalize hw5 : w.drewN nq = W5 at *
    have bw5 : Below w.heap.size w W5 := by rw [← hw5]; exact below_draws (Below.refl _ _) nq
    have hst : W5.drew.cell? ⟨b, o + j + 1, none⟩ = some (.int .u8 (x1.toNat : Int)) ∧ Below w.heap.size w W5.drew := ⟨(bw5.cell (p := ⟨b, o + j + 1, none⟩) (by show b < _; omega)).trans hcx, bw5.drew⟩
    have HST := Lib.hid hst
    have hstep : ∀ (U V : World), Below U.heap.size U V → (U.cell? ⟨b, o + j + 1, none⟩ = some (.int .u8 (x1.toNat : Int)) ∧ Below w.heap.size w U) → (V.cell? ⟨b, o + j + 1, none⟩ = some (.int .u8 (x1.toNat : Int)) ∧ Below w.heap.size w V) :=
      fun U V h3 h => ⟨(h3.cell (p := ⟨b, o + j + 1, none⟩) (by show b < _; have := h.2.size; omega)).trans h.1, h.2.trans (h3.mono h.2.size)⟩
    have hstep := Lib.hid hstep
    have q : ∀ W (m cc : Nat), (W.cell? ⟨b, o + j + 1, none⟩ = some (.int .u8 (x1.toNat : Int)) ∧ Below w.heap.size w W) → m = N → Calls Tryd.prog 74 #[.slice (some ⟨b, o + j + 4, none⟩) m cc] W (Copied W m ((r.drop 4).take N)) :=
      fun W m cc h hm => by
        subst hm
        exact clone _ _ cc _ B W (HB.out.below (h.2.mono hB)) (by have := h.2.size; omega) (by omega)
    have Q := Lib.hid q
    clear q hst
    have i1 : (1 : Int) < ((n - j : Nat) : Int) := by omega
    have i2 : (0 : Int) ≤ 4 + (N : Int) := by omega
    have i3 : 4 + (N : Int) ≤ ((c - j : Nat) : Int) := by omega
    have i4 : (4 : Int) ≤ 4 + (N : Int) := by omega
    have i5 : ¬ c - j = 4 := by omega
    go_region_held3 (fun w' => w'.cell? ⟨b, o + j + 1, none⟩ = some (.int .u8 (x1.toNat : Int)) ∧ Below w.heap.size w w')
      ((first | exact HST.out | assumption | exact hstep.out _ _ (by assumption) (by assumption)))
      ((first | (go_at_call 74; refine (Q.out _ _ _ (by assumption) (by omega)).mono ?_; rintro e w' ⟨A9, c9, rfl, ho9, hb9⟩)))
    go_wp2
    refine bodyPost_ret (results_tmp4 rfl _ _ _) rfl ?_
    have hh : w'.cell? ⟨b, o + j + 1, none⟩ = some (.int .u8 (x1.toNat : Int)) ∧ Below w.heap.size w w' := by assumption
    have hsz := bw5.size
    exact got_ok HD.out HG.out HX1.out HNN.out (ho9.lower hsz) hh.2
end Go.Proofs.YtddcfgbembjbhaaDoor
