/- Messages under way: dropped; the document's net. -/
import Derived.Test.YtddcfgbembjbhaaNet2
namespace Go.Proofs.Ytddcfgbembjbhaa
open Go.RowKit
set_option linter.unusedVariables false

/-- A message is dropped, or none. -/
def Dropped (τ : TypeId) (C D : Nat → Prop) (p : Nat) (ms : List (List UInt8)) (i : Int) (w : World) (e : Ending) (w' : World) : Prop :=
  (atOf ms i = none ∧ e = .returned (.bool false) ∧ Below w.heap.size w w') ∨
  ∃ m C', atOf ms i = some m ∧ e = .returned (.bool true) ∧ NetAt w' τ C' D p (ms.eraseIdx i.toNat) ∧ Frame C w w' ∧ (∀ k, C' k → C k ∨ w.heap.size ≤ k)
set_option maxHeartbeats 1000000 in
theorem drop_ (C D : Nat → Prop) (p : Nat) (ms : List (List UInt8)) (i : Int) (w : World) (h : NetAt w 44 C D p ms) (hl : ms.length ≤ 400) : Calls Try.prog 15 #[.pointer (some ⟨p, 0, none⟩), .int .i64 i] w (Dropped 44 C D p ms i w) := by
  have QA := Lib.hid (take_ C D p ms i w h hl)
  clear h
  go_enter Try.func15, Try.ntmps15
  go_wp2_with (go_at_call 11; refine QA.out.mono ?_; rintro e w1 (⟨hr, ⟨A, c, rfl⟩, hb⟩ | ⟨m, A, n, c, C', X, hr, rfl, hbs, hn, hnet, hf, hC, hX⟩))
  · go_ret
    exact .inl ⟨hr, by simp, hb⟩
  · go_ret
    exact .inr ⟨m, C', hr, by simp, hnet, hf, hC⟩

/-! ### The document's net -/
theorem step_append_new {P : Program} {w : World} {ops : Array Oper} {o : Oper} {a : Act} {K : Act → World → Prop} {Q : Exit → Act → World → Prop} {E : Prop} (hgd : Region.wanted o (yielded ops a.tmps) = true) (s x : Operand) {t e : TypeId} {z : Value} {sz bytes : Nat}
    (ho : o.op = .call { callee := .builtin .append, args := #[s, x], argTypes := #[t, t] }) (ht : P.underlying t = some (.slice e)) (hinfo : (P.info? e).map (fun i => (i.zero, i.size, i.bytes)) = some (some z, sz, bytes)) (hzs : z.cells.size = sz) (hsz : 0 < sz)
    {base c : Nat} {A : Option Addr} (hs : a.eval s = .slice A 0 c) (hrow : Row w e base A 0 c sz []) {R : Nat → Prop} {m c2 : Nat} {A2 : Option Addr} {ys : List Value} (hx : a.eval x = .slice A2 m c2) (hsrc : Cells w R A2 m sz ys) (h1 : ∀ u ∈ ys, u.oneCell' = true)
    (hn : m ≤ 4611686018427387904) (hbytes : m * bytes ≤ 140737488355328) (hbase : base ≤ w.heap.size)
    (h : ∀ A' c' w', Row w' e base A' m c' sz ys → w.grownBy w' (A.map (·.block)) → K (a.put o.dst (.slice A' m c')) w') :
    if Region.wanted o (yielded ops a.tmps) = true then Oper.wp P o a w K Q else E := by
  refine step_append_row hgd s x ho ht hinfo hzs hsz hs hrow hx hsrc h1 (by omega) (by rw [Nat.zero_add]; exact hbytes) hbase ?_
  intro A' c' w' h2 h3 h4 h5
  rw [Nat.zero_add, List.nil_append] at h2
  rw [Nat.zero_add]
  exact h A' c' w' h2 h3
set_option maxRecDepth 100000 in
set_option maxHeartbeats 2000000 in
theorem refsend (C D R : Nat → Prop) (p : Nat) (ms : List (List UInt8)) (A2 : Option Addr) (n2 c2 : Nat) (l : List UInt8) (w : World) (h : NetAt w 37 C D p ms) (hl : ms.length ≤ 400) (hb : Bytes w R A2 n2 l) (hn2 : n2 ≤ 140737488351232) :
    Calls Try.prog 13 #[.pointer (some ⟨p, 0, none⟩), .slice A2 n2 c2] w (Sent 37 C D p ms l w) := by
  have hnet := Lib.hid h
  obtain ⟨A, n, c, vs, hp, hcp, hrow, hr, hn, hm, hap, hbd⟩ := h
  obtain ⟨hc0, hf0⟩ := NetAt.cell (C := C) hp
  have hplt := (Array.getElem?_eq_some_iff.1 hp).1
  have HP := Lib.hid hp
  have HROW := Lib.hid hrow
  have HB := Lib.hid hb
  have HR := Lib.hid hr
  clear hm hap hr hp hrow hb hbd
  by_cases h4 : n = 400
  · have h5 : decide ((400 : Int) ≤ (n : Int)) = true := by simp; omega
    have HN := Lib.hid hn
    clear hn
    go_enter Try.func13, Try.ntmps13
    go_wp2
    go_ret
    exact .inr ⟨by rw [← HN.out]; exact h4, by simp, rfl⟩
  · have h5 : decide ((400 : Int) ≤ (n : Int)) = false := by simp; omega
    have HN := Lib.hid hn
    clear hn
    have hnep : some p ≠ A.map (·.block) := fun e => (HR.out p e.symm).2 rfl
    have hn4 : n < 400 := by have := HN.out; omega
    have hmade := Lib.hid (Row.made w 5 w.heap.size 1 w.heap.size 0 #[] [] rfl (Nat.le_refl _) rfl rfl).drew
    have b1 : Below w.heap.size w (w.alloc (.cells #[] 5)).drew := ((Below.refl w.heap.size w).alloc (Nat.le_refl _) (.cells #[] 5)).drew
    have hbl := Lib.hid (Cells.later (w := w) HB.out b1)
    have hbase : w.heap.size ≤ (w.alloc (.cells #[] 5)).drew.heap.size := by simp
    go_enter Try.func13, Try.ntmps13
    go_wp2
    go_region_law (first | (refine step_append_new (by rfl) (.tmp 16) (.tmp 17) (by rfl) Try.underlying28 info5 (by rfl) (by omega) (by rfl) hmade.out (by rfl) hbl.out (one_u8 l) (by omega) (by omega) hbase ?_; intro A3 c3 w1 hown hg2; have hb2 : Below w.heap.size w w1 := Below.grown b1 hg2 (by simp) (by intro k hk; simp at hk; omega); have hc1 : w1.cell? ⟨p, 0, none⟩ = some (.slice A n c) := (hb2.cell (p := ⟨p, 0, none⟩) hplt).trans hc0; have hf1 : w1.frozen? ⟨p, 0, none⟩ = false := (hb2.frozen (p := ⟨p, 0, none⟩) hplt).trans hf0; have hs1 := hb2.size; have hp1 : p < w1.heap.size := Nat.lt_of_lt_of_le hplt hb2.size; have hrowA := (HROW.out.later hb2).alloc (.cells #[.slice A3 n2 c3] 28); have hcelA := (Row.made w1 28 0 1 _ 1 #[.slice A3 n2 c3] [.slice A3 n2 c3] rfl (Nat.zero_le _) rfl rfl).cells; have hcA : (w1.alloc (.cells #[.slice A3 n2 c3] 28)).cell? ⟨p, 0, none⟩ = some (.slice A n c) := (((Below.refl w1.heap.size w1).alloc (Nat.le_refl _) (.cells #[.slice A3 n2 c3] 28)).cell (p := ⟨p, 0, none⟩) hp1).trans hc1; have hfA : (w1.alloc (.cells #[.slice A3 n2 c3] 28)).frozen? ⟨p, 0, none⟩ = false := (((Below.refl w1.heap.size w1).alloc (Nat.le_refl _) (.cells #[.slice A3 n2 c3] 28)).frozen (p := ⟨p, 0, none⟩) hp1).trans hf1; have hpA : p < (w1.alloc (.cells #[.slice A3 n2 c3] 28)).heap.size := by simp; omega) | (refine step_append_row (by rfl) (.tmp 15) (.tmp 19) (by rfl) Try.underlying22 info28 (by rfl) (by omega) (by rfl) hrowA (by rfl) hcelA (by intro u hu; simp at hu; subst hu; rfl) (by omega) (by omega) (Nat.zero_le _) ?_; intro A4 c4 w3 hrow3 hg3 hat3 h03; have hc3 := hg3.cell hcA hnep; have hf3 := (hg3.frozen_far ⟨p, 0, none⟩ hpA hnep).trans hfA))
    all_goals go_wp2
    all_goals (go_ret; exact .inl ⟨by have := HN.out; omega, by simp, pushed hnet.out hc0 hb2 hown hn2 HROW.out hrow3 hg3 hat3⟩)

/-- A message that is shown, or none. -/
def Shown (w : World) (D : Nat → Prop) (r : Option (List UInt8)) (e : Ending) (w' : World) : Prop := ∃ A n c, e = .returned (.tuple #[.slice A n c, .bool r.isSome]) ∧ Bytes w D A n (r.getD []) ∧ n ≤ 140737488351232 ∧ w' = w
set_option maxHeartbeats 400000 in
theorem refat (C D : Nat → Prop) (p : Nat) (ms : List (List UInt8)) (i : Int) (w : World) (h : NetAt w 37 C D p ms) : Calls Try.prog 18 #[.pointer (some ⟨p, 0, none⟩), .int .i64 i] w (Shown w D (atOf ms i)) := by
  obtain ⟨A, n, c, vs, hp, hcp, hrow, hr, hn, hm, hap, hbd⟩ := h
  obtain ⟨hc0, hf0⟩ := NetAt.cell (C := C) hp
  by_cases h0 : i < 0
  · have HA := Lib.hid (show atOf ms i = none by unfold atOf; rw [if_pos h0])
    clear hn hm hap hr hbd
    go_enter Try.func18, Try.ntmps18
    go_wp2
    go_ret2
    exact ⟨none, 0, 0, by rw [HA.out]; rfl, by rw [HA.out]; exact Cells.none_ _ _ _ _, by omega, rfl⟩
  by_cases h1 : (n : Int) ≤ i
  · have HA := Lib.hid (show atOf ms i = none by unfold atOf; rw [if_neg h0, List.getElem?_eq_none (by omega)])
    clear hn hm hap hr hbd
    go_enter Try.func18, Try.ntmps18
    go_wp2
    go_ret2
    exact ⟨none, 0, 0, by rw [HA.out]; rfl, by rw [HA.out]; exact Cells.none_ _ _ _ _, by omega, rfl⟩
  obtain ⟨j, rfl⟩ := Int.eq_ofNat_of_zero_le (show 0 ≤ i by omega)
  have hj : j < n := by omega
  have hjm : j < ms.length := by omega
  have HA := Lib.hid (show atOf ms (j : Int) = some ms[j] by unfold atOf; rw [if_neg h0, Int.toNat_natCast, List.getElem?_eq_getElem hjm])
  obtain ⟨v, hv, B, k, d, rfl, hb, hk⟩ := hm j ms[j] (List.getElem?_eq_getElem hjm)
  obtain ⟨g, u, rfl, _, hlt, hnc, hvu, hcj, _⟩ := hrow.at_ hj
  rw [hv] at hvu
  obtain rfl := Option.some.inj hvu
  have HB := Lib.hid hb
  generalize ms[j] = m at *
  clear hn hm hap hr hrow hb hv hvu hbd
  go_enter Try.func18, Try.ntmps18
  go_wp2
  go_ret2
  exact ⟨B, k, d, by rw [HA.out]; rfl, by rw [HA.out]; exact HB.out, hk, rfl⟩
set_option maxHeartbeats 1000000 in
theorem refdup (C D : Nat → Prop) (p : Nat) (ms : List (List UInt8)) (i : Int) (w : World) (h : NetAt w 37 C D p ms) (hl : ms.length ≤ 400) : Calls Try.prog 16 #[.pointer (some ⟨p, 0, none⟩), .int .i64 i] w (Duped 37 C D p ms i w) := by
  have QA := Lib.hid (refat C D p ms i w h)
  have hnet := Lib.hid h
  rcases hr : atOf ms i with _ | b
  · rw [hr] at QA
    clear h
    go_enter Try.func16, Try.ntmps16
    go_wp2_with (go_at_call 18; refine QA.out.mono ?_; rintro e w1 ⟨A, n, c, rfl, hown, hn, rfl⟩)
    go_ret
    exact .inl ⟨by simp [hr], by simp, Below.refl _ _⟩
  · rw [hr] at QA
    clear h
    go_enter Try.func16, Try.ntmps16
    go_wp2_with (first | (go_at_call 18; refine QA.out.mono ?_; rintro e w1 ⟨A, n, c, rfl, hown, hn, rfl⟩; have QS := Lib.hid (refsend C D D p ms A n c b _ hnet.out hl hown hn)) | (go_at_call 13; refine QS.out.mono ?_; rintro e w2 hs; have hs2 := hs; rcases hs with ⟨hlt, rfl, ht⟩ | ⟨heq, rfl, rfl⟩))
    all_goals go_ret
    · exact .inr ⟨b, hr, _, Below.refl _ _, .inl ⟨hlt, rfl, ht⟩⟩
    · exact .inr ⟨b, hr, _, Below.refl _ _, .inr ⟨heq, rfl, rfl⟩⟩
end Go.Proofs.Ytddcfgbembjbhaa
