/- Messages under way: taken, dropped. -/
import Derived.Test.YtddcfgbembjbhaaNet
namespace Go.Proofs.Ytddcfgbembjbhaa
open Go.RowKit
set_option linter.unusedVariables false

/-! ### Taking -/
theorem wanted_none {o : Oper} (h : o.guard = none) (ys : Nat → Option Bool) : Region.wanted o ys = true := by simp [Region.wanted, h]
theorem Cells.drew {w : World} {R : Nat → Prop} {A : Option Addr} {n sz : Nat} {xs : List Value} (h : Cells w R A n sz xs) : Cells w.drew R A n sz xs := h
theorem Row.uniq {w : World} {e : TypeId} {base base' n c sz : Nat} {A : Option Addr} {xs ys : List Value} (h : Row w e base A n c sz xs) (h' : Row w e base' A n c sz ys) : xs = ys := by
  have l1 := h.1
  have l2 := h'.1
  rcases h.2 with ⟨rfl, h0, _⟩ | ⟨g, cur, rfl, _, hg, _, _, ht⟩
  · subst h0
    rw [List.eq_nil_of_length_eq_zero (l := xs) (by simpa using l1), List.eq_nil_of_length_eq_zero (l := ys) (by simpa using l2)]
  · rcases h'.2 with ⟨h0, _⟩ | ⟨g', cur', he, _, hg', _, _, ht'⟩
    · cases h0
    · injection he with he
      injection he with he
      subst he
      rw [hg] at hg'
      injection hg' with hg'
      injection hg' with hg'
      rw [← ht, ← ht', hg']
theorem replaced {τ : TypeId} {C D : Nat → Prop} {p : Nat} {ms ms4 : List (List UInt8)} {w w1 w3 : World} (h : NetAt w τ C D p ms) {A : Option Addr} {n c : Nat} (hc0 : w.cell? ⟨p, 0, none⟩ = some (.slice A n c))
    (hb2 : Below w.heap.size w w1) {vs vs4 : List Value} {n4 c4 : Nat} {A4 : Option Addr} (hrow : Row w 28 0 A n c 1 vs) (hrow3 : Row w3 28 0 A4 n4 c4 1 vs4) (hg3 : w1.grownBy w3 (A.map (·.block)))
    (hat : A4.map (·.block) = A.map (·.block) ∨ (∀ k, inRow A4 k → w.heap.size ≤ k)) (hn4 : n4 = ms4.length) (hms : ∀ (i : Nat) (m : List UInt8), ms4[i]? = some m → ∃ (v : Value) (j : Nat), vs4[i]? = some v ∧ vs[j]? = some v ∧ ms[j]? = some m) :
    NetAt (w3.setCell ⟨p, 0, none⟩ (.slice A4 n4 c4)) τ (fun k => C k ∨ inRow A4 k) D p ms4 ∧ Frame C w (w3.setCell ⟨p, 0, none⟩ (.slice A4 n4 c4)) ∧ (∀ k, C k ∨ inRow A4 k → C k ∨ w.heap.size ≤ k) ∧ Frame C w1 (w3.setCell ⟨p, 0, none⟩ (.slice A4 n4 c4)) ∧ (∀ k, inRow A4 k → C k ∨ (w1.heap.size ≤ k ∨ w.heap.size ≤ k)) := by
  obtain ⟨A', n', c', vs', hp, hcp, hrow', hr, hn, hm, hap, hbd⟩ := h
  have hce := (NetAt.cell (C := C) hp).1.symm.trans hc0
  injection hce with hce
  injection hce with e1 e2 e3
  subst e1 e2 e3
  obtain rfl := hrow.uniq hrow'
  have hpl := (Array.getElem?_eq_some_iff.1 hp).1
  have hs1 := hb2.size
  have f1 : Frame None w w1 := Frame.of_below hb2
  have f13 : Frame (inRow A') w1 w3 := Frame.grown (Frame.refl (inRow A') _) hg3 fun k hk _ => hk
  have f3 : Frame (inRow A') w w3 := Frame.trans (f1.mono fun k _ hk => hk.elim) f13 fun k _ hk => hk
  have hs3 := f3.size
  have hin : ∀ k, inRow A4 k → C k ∨ w.heap.size ≤ k := by
    intro k hk
    rcases hat with e | e
    · unfold inRow at hk
      rw [e] at hk
      exact .inl (hr k hk).1
    · exact .inr (e k hk)
  have hne4 : ∀ k, inRow A4 k → k ≠ p := by
    intro k hk
    rcases hat with e | e
    · unfold inRow at hk
      rw [e] at hk
      exact (hr k hk).2
    · have := e k hk
      omega
  have f4 : Frame (fun k => k = p) w3 (w3.setCell ⟨p, 0, none⟩ (.slice A4 n4 c4)) := (Frame.refl (fun k => k = p) w3).setCell (p := ⟨p, 0, none⟩) (fun _ => rfl) _
  have f5 : Frame (fun k => inRow A' k ∨ k = p) w (w3.setCell ⟨p, 0, none⟩ (.slice A4 n4 c4)) := (f3.mono fun k _ hk => .inl hk).trans f4 fun k _ hk => .inr hk
  have f6 : Frame (fun k => inRow A' k ∨ k = p) w1 (w3.setCell ⟨p, 0, none⟩ (.slice A4 n4 c4)) := (f13.mono fun k _ hk => .inl hk).trans f4 fun k _ hk => .inr hk
  have hCC : ∀ k, inRow A' k ∨ k = p → C k := by
    rintro k (hk | rfl)
    · exact (hr k hk).1
    · exact hcp
  have hp3 : w3.heap[p]? = some (.cells #[.slice A' n' c'] τ (0, 0)) := (f3.block p hpl fun hk => (hr p hk).2 rfl).trans hp
  refine ⟨⟨A4, n4, c4, vs4, ?_, .inl hcp, hrow3.frame f4 fun k hk => hne4 k hk, fun k hk => ⟨.inr hk, hne4 k hk⟩, hn4, ?_, ?_, ?_⟩, f5.mono fun k _ hk => hCC k hk, fun k hk => hk.elim .inl (hin k), f6.mono fun k _ hk => hCC k hk, fun k hk => (hin k hk).elim .inl fun h => .inr (.inr h)⟩
  · simp [World.setCell, Array.getElem?_modify, hp3]
  · intro i m hi
    obtain ⟨v, j, h1, h2, h3⟩ := hms i m hi
    obtain ⟨v', hv', hma⟩ := hm j m h3
    rw [h2] at hv'
    obtain rfl := Option.some.inj hv'
    exact ⟨v, h1, hma.frame f5 fun k hk hc => hap k hk (hCC k hc)⟩
  · rintro k hk (hc | hc)
    · exact hap k hk hc
    · have h1 := hbd k (.inr hk)
      rcases hin k hc with h | h
      · exact hap k hk h
      · omega
  · have hss : (w3.setCell ⟨p, 0, none⟩ (.slice A4 n4 c4)).heap.size = w3.heap.size := by simp
    intro k hk
    rw [hss]
    rcases hk with (hk | hk) | hk
    · have := hbd k (.inl hk)
      omega
    · exact (hrow3.block k hk).2
    · have := hbd k (.inr hk)
      omega
/-- A message is taken, or none. -/
def Taken (τ : TypeId) (C D : Nat → Prop) (p : Nat) (ms : List (List UInt8)) (i : Int) (w : World) (e : Ending) (w' : World) : Prop :=
  (atOf ms i = none ∧ (∃ A c, e = .returned (.tuple #[.slice A 0 c, .bool false])) ∧ Below w.heap.size w w') ∨
  ∃ m A n c C' X, atOf ms i = some m ∧ e = .returned (.tuple #[.slice A n c, .bool true]) ∧ Bytes w' X A n m ∧ n ≤ 140737488351232 ∧ NetAt w' τ C' D p (ms.eraseIdx i.toNat) ∧ Frame C w w' ∧ (∀ k, C' k → C k ∨ w.heap.size ≤ k) ∧ (∀ k, X k → ¬ C' k ∧ (D k ∨ w.heap.size ≤ k))
theorem erased {ms : List (List UInt8)} {vs : List Value} {n j : Nat} (hn : n = ms.length) (hv : vs.length = n * 1) (hj : j < n) : ∀ (i : Nat) (m : List UInt8), (ms.eraseIdx j)[i]? = some m → ∃ (v : Value) (t : Nat), (vs.take j ++ vs.drop (j + 1))[i]? = some v ∧ vs[t]? = some v ∧ ms[t]? = some m := by
  intro i m hi
  rw [List.getElem?_eraseIdx] at hi
  have hvl : (vs.take j).length = j := by rw [List.length_take]; omega
  split at hi
  · rename_i hij
    obtain ⟨h1, _⟩ := List.getElem?_eq_some_iff.1 hi
    refine ⟨vs[i]'(by omega), i, ?_, List.getElem?_eq_getElem (by omega), hi⟩
    rw [List.getElem?_append_left (by omega), List.getElem?_take, if_pos hij, List.getElem?_eq_getElem (by omega)]
  · rename_i hij
    obtain ⟨h1, _⟩ := List.getElem?_eq_some_iff.1 hi
    refine ⟨vs[i + 1]'(by omega), i + 1, ?_, List.getElem?_eq_getElem (by omega), hi⟩
    rw [List.getElem?_append_right (by omega), List.getElem?_drop, hvl, show j + 1 + (i - j) = i + 1 by omega, List.getElem?_eq_getElem (by omega)]
theorem ones {w : World} {D : Nat → Prop} {vs : List Value} {ms : List (List UInt8)} {n : Nat} (hn : n = ms.length) (hv : vs.length = n * 1) (hm : ∀ (i : Nat) (m : List UInt8), ms[i]? = some m → ∃ v, vs[i]? = some v ∧ MsgAt w D v m) : ∀ v ∈ vs, v.oneCell' = true := by
  intro v hv'
  obtain ⟨i, hi, rfl⟩ := List.getElem_of_mem hv'
  obtain ⟨v', h1, A, k, c, rfl, _⟩ := hm i (ms[i]'(by omega)) (List.getElem?_eq_getElem (by omega))
  rw [List.getElem?_eq_getElem hi] at h1
  rw [Option.some.inj h1]
  rfl
theorem behind {w : World} {vs : List Value} {g n c j : Nat} {A5 : Option Addr} (hrow : Row w 28 0 (some ⟨g, 0, none⟩) n c 1 vs) (hj : j < n) (hA5 : (if c = j + 1 then some (⟨g, 0, none⟩ : Addr) else some ⟨g, j + 1, none⟩) = A5) : Cells w (fun k => k = g) A5 (n - (j + 1)) 1 (vs.drop (j + 1)) := by
  have hv := hrow.1
  have hc := hrow.le
  refine ⟨by rw [List.length_drop, hv]; omega, fun h0 => ?_⟩
  obtain ⟨b, o, he, hb, _, hcc⟩ := hrow.cells.2 (by omega)
  injection he with he
  injection he with e1 e2
  subst e1 e2
  rw [if_neg (by omega)] at hA5
  refine ⟨g, j + 1, hA5.symm, hb, rfl, fun t u hu => ?_⟩
  rw [List.getElem?_drop] at hu
  have := hcc (j + 1 + t) u hu
  rwa [Nat.zero_add] at this
theorem taken {τ : TypeId} {C D : Nat → Prop} {p : Nat} {ms : List (List UInt8)} {w w1 w3 : World} (h : NetAt w τ C D p ms) {g n c : Nat} (hc0 : w.cell? ⟨p, 0, none⟩ = some (.slice (some ⟨g, 0, none⟩) n c))
    (hb : Below w.heap.size w w1) {A7 : Option Addr} {n7 c7 : Nat} {b : List UInt8} (hown : Own w1 w.heap.size A7 n7 c7 b) (hn7 : n7 ≤ 140737488351232) {vs : List Value} (hrow : Row w 28 0 (some ⟨g, 0, none⟩) n c 1 vs) (hn : n = ms.length) {j : Nat} (hj : j < n) (hr : atOf ms j = some b)
    {A4 : Option Addr} {c4 : Nat} (hrow3 : Row w3 28 0 A4 (j + (n - (j + 1))) c4 1 (vs.take (j * 1) ++ vs.drop (j + 1))) (hg3 : w1.drew.grownBy w3 ((some (⟨g, 0, none⟩ : Addr)).map (·.block))) (hat : A4.map (·.block) = (some (⟨g, 0, none⟩ : Addr)).map (·.block) ∨ A4.map (·.block) = some w1.drew.heap.size) :
    Taken τ C D p ms (j : Int) w (.returned (.tuple #[.slice A7 n7 c7, .bool true])) (w3.setCell ⟨p, 0, none⟩ (.slice A4 (j + (n - (j + 1))) c4)) := by
  have hbd : ∀ k, C k ∨ D k → k < w.heap.size := by
    obtain ⟨_, _, _, _, _, _, _, _, _, _, _, hbd⟩ := h
    exact hbd
  have hgC : ∀ k, (some (⟨g, 0, none⟩ : Addr)).map (·.block) = some k → C k := by
    obtain ⟨A', n', c', vs', hp, _, _, hr', _⟩ := h
    have hce := (NetAt.cell (C := C) hp).1.symm.trans hc0
    injection hce with hce
    injection hce with e1 e2 e3
    subst e1 e2 e3
    exact fun k hk => (hr' k hk).1
  have hs1 := hb.size
  rw [Nat.mul_one] at hrow3
  obtain ⟨r1, r2, r3, r4, _⟩ := replaced h hc0 (w1 := w1.drew) ⟨hb.os, hb.tape, hb.output, hb.size, hb.block⟩ hrow hrow3 hg3 (ms4 := ms.eraseIdx j) (hat.imp id fun e k hk => by
    unfold inRow at hk
    rw [e] at hk
    injection hk with hk
    have : w1.drew.heap.size = w1.heap.size := rfl
    omega) (by rw [List.length_eraseIdx, if_pos (by omega)]; omega) (erased hn hrow.1 hj)
  have hA7 : ∀ k, inRow A7 k → w.heap.size ≤ k ∧ k < w1.heap.size := fun k hk => hown.block k hk
  have hcl : Bytes w1 (inRow A7) A7 n7 b := hown.cells
  refine .inr ⟨b, A7, n7, c7, fun k => C k ∨ inRow A4 k, inRow A7, hr, rfl, Cells.frame (Cells.drew hcl) r4 fun k hk hc => ?_, hn7, by rw [Int.toNat_natCast]; exact r1, r2, r3, fun k hk => ⟨?_, .inr (hA7 k hk).1⟩⟩
  · have := hA7 k hk
    have := hbd k (.inl hc)
    omega
  · rintro (hc | hc)
    · have := hA7 k hk
      have := hbd k (.inl hc)
      omega
    · have h7 := hA7 k hk
      unfold inRow at hc
      rcases hat with e | e
      · rw [e] at hc
        have := hbd k (.inl (hgC k hc))
        omega
      · rw [e] at hc
        injection hc with hc
        have : w1.drew.heap.size = w1.heap.size := rfl
        omega
set_option maxRecDepth 1000000 in
set_option maxHeartbeats 2000000 in
theorem take_ (C D : Nat → Prop) (p : Nat) (ms : List (List UInt8)) (i : Int) (w : World) (h : NetAt w 44 C D p ms) (hl : ms.length ≤ 400) : Calls Try.prog 11 #[.pointer (some ⟨p, 0, none⟩), .int .i64 i] w (Taken 44 C D p ms i w) := by
  have QA := Lib.hid (at_ C D p ms i w h)
  have hnet := Lib.hid h
  rcases hr : atOf ms i with _ | b
  · rw [hr] at QA
    clear h
    go_enter Try.func11, Try.ntmps11
    go_wp2_with (go_at_call 17; refine QA.out.mono ?_; rintro e w1 ⟨A, n, c, rfl, hown, hn, hb⟩)
    go_ret2
    have h0 : n = 0 := by have := hown.1; simpa using this.symm
    subst h0
    exact .inl ⟨hr, ⟨A, c, rfl⟩, hb⟩
  · rw [hr] at QA
    obtain ⟨A, n, c, vs, hp, hcp, hrow, hrr, hn, hm, hap, hbd⟩ := h
    obtain ⟨hc0, hf0⟩ := NetAt.cell (C := C) hp
    have hplt := (Array.getElem?_eq_some_iff.1 hp).1
    obtain ⟨j, rfl⟩ : ∃ j : Nat, i = (j : Int) := by
      unfold atOf at hr
      split at hr
      · cases hr
      · exact Int.eq_ofNat_of_zero_le (by omega)
    have hj : j < n := by
      unfold atOf at hr
      rw [if_neg (by omega), Int.toNat_natCast] at hr
      have := (List.getElem?_eq_some_iff.1 hr).1
      omega
    obtain ⟨g, u, rfl, _, hlt, hnc, hvu, _, _⟩ := hrow.at_ hj
    have hgp : g ≠ p := (hrr g rfl).2
    have hnep : some p ≠ (some (⟨g, 0, none⟩ : Addr)).map (·.block) := fun e => hgp (Option.some.inj e).symm
    obtain ⟨A5, hA5⟩ : ∃ A5 : Option Addr, (if c = j + 1 then some (⟨g, 0, none⟩ : Addr) else some ⟨g, j + 1, none⟩) = A5 := ⟨_, rfl⟩
    have hsrc : Hid (Cells w (fun k => k = g) A5 (n - (j + 1)) 1 (vs.drop (j + 1))) := Lib.hid (behind hrow hj hA5)
    have hone : Hid (∀ v ∈ vs.drop (j + 1), v.oneCell' = true) := Lib.hid fun v hv => ones hn hrow.1 hm v (List.mem_of_mem_drop hv)
    have hrow0 := Lib.hid (hrow.take (k := j) (d := j) (by omega) (Nat.le_refl _) (by omega))
    have hwr : IntKind.i64.wrap ((j : Int) + 1) = (j : Int) + 1 := by rw [IntKind.wrap_i64]; omega
    have hp0 : (0 : Int) ≤ (j : Int) + 1 := by omega
    have hp1 : (j : Int) + 1 ≤ (n : Int) := by omega
    have hp2 : ((j : Int) + 1).toNat = j + 1 := by omega
    have hjc : j ≤ c := by omega
    have hn4 : n ≤ 400 := by omega
    have HN := Lib.hid hn
    have HROW := Lib.hid hrow
    clear hn hm hap hrr hbd hp hrow
    go_enter Try.func11, Try.ntmps11
    go_wp2_with (go_at_call 17; refine QA.out.mono ?_; rintro e w1 ⟨A7, n7, c7, rfl, hown, hn7, hb⟩; have hc1 : w1.cell? ⟨p, 0, none⟩ = some (.slice (some ⟨g, 0, none⟩) n c) := (hb.cell (p := ⟨p, 0, none⟩) hplt).trans hc0; have hf1 : w1.frozen? ⟨p, 0, none⟩ = false := (hb.frozen (p := ⟨p, 0, none⟩) hplt).trans hf0; have hs1 := hb.size; have hq1 : p < w1.heap.size := Nat.lt_of_lt_of_le hplt hb.size; have hrowA : Hid (Row w1.drew 28 0 (some ⟨g, 0, none⟩) j j 1 (vs.take (j * 1))) := Lib.hid ((hrow0.out.later hb).drew); have hcelA : Hid (Cells w1.drew (fun k => k = g) A5 (n - (j + 1)) 1 (vs.drop (j + 1))) := Lib.hid (Cells.drew (hsrc.out.later hb)))
    go_region_law (first | (refine step_append_row (wanted_none rfl _) (.tmp 22) (.tmp 29) (by rfl) Try.underlying22 info28 (by rfl) (by omega) (by rfl) hrowA.out (by rfl) hcelA.out hone.out (by omega) (by omega) (Nat.zero_le _) ?_; intro A4 c4 w3 hrow3 hg3 hat3 h03; have hc3 := hg3.cell hc1 hnep; have hf3 := (hg3.frozen_far ⟨p, 0, none⟩ hq1 hnep).trans hf1))
    all_goals go_wp2
    all_goals go_ret2
    all_goals exact taken hnet.out hc0 hb hown hn7 HROW.out HN.out hj hr hrow3 hg3 hat3
end Go.Proofs.Ytddcfgbembjbhaa
