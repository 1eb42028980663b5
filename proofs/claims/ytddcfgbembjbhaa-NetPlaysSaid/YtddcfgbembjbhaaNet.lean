/- Messages under way: the program's net and the document's, walked. -/
import Derived.Test.YtddcfgbembjbhaaProg
import Derived.Test.YtddcfgbembjbhaaGen
import Derived.WalkLawsBesides
import Derived.Deep.QuietTactic
import Derived.BigQuiet
import Derived.Deep.RegionWith
import Derived.Deep.RegionLaw
import Derived.Deep.RegionHeld3
import Derived.Deep.AppendLies
namespace Go.Proofs.Ytddcfgbembjbhaa
open Go.RowKit
set_option linter.unusedVariables false

theorem info5 : (Try.prog.info? 5).map (fun i => (i.zero, i.size, i.bytes)) = some (some (.int .u8 0), 1, 1) := by kernel_rfl
theorem info28 : (Try.prog.info? 28).map (fun i => (i.zero, i.size, i.bytes)) = some (some (.slice none 0 0), 1, 24) := by kernel_rfl
/-- A byte's value. -/
def u8 (b : UInt8) : Value := .int .u8 (b.toNat : Int)
/-- The slice reads as the bytes 'l', in a block in R. -/
def Bytes (w : World) (R : Nat → Prop) (A : Option Addr) (n : Nat) (l : List UInt8) : Prop := Cells w R A n 1 (l.map u8)
/-- The slice is the call's own, and reads as the bytes 'l'. -/
def Own (w : World) (base : Nat) (A : Option Addr) (n c : Nat) (l : List UInt8) : Prop := Row w 5 base A n c 1 (l.map u8)
theorem one_u8 (l : List UInt8) : ∀ u ∈ l.map u8, u.oneCell' = true := by
  intro u hu
  obtain ⟨x, _, rfl⟩ := List.mem_map.1 hu
  rfl
theorem Bytes.len {w : World} {R : Nat → Prop} {A : Option Addr} {n : Nat} {l : List UInt8} (h : Bytes w R A n l) : l.length = n := by have := h.1; simpa using this

def Cloned (w : World) (n : Nat) (l : List UInt8) (e : Ending) (w' : World) : Prop := ∃ A c, e = .returned (.slice A n c) ∧ Own w' w.heap.size A n c l ∧ Below w.heap.size w w'
set_option maxHeartbeats 400000 in
theorem clone (A : Option Addr) (n c : Nat) (l : List UInt8) (R : Nat → Prop) (w : World) (hb : Bytes w R A n l) (hn : n ≤ 140737488351232) :
    Calls Try.prog 19 #[.slice A n c] w (Cloned w n l) := by
  have hl := hb.len
  rcases A with _ | a
  · have h0 : n = 0 := by
      rcases Nat.eq_zero_or_pos n with h | h
      · exact h
      · obtain ⟨b, o, e, _⟩ := hb.2 h
        cases e
    subst h0
    obtain rfl : l = [] := List.eq_nil_of_length_eq_zero hl
    have he := fun w => Lib.run_eql_slice_nil (P := Try.prog) w 28 5 none 0 c 0 0 Try.underlying28
    go_enter Try.func19, Try.ntmps19
    go_wp2
    go_ret
    exact ⟨none, 0, rfl, Row.nil _ _ _ _, Below.refl _ _⟩
  · have he := fun w => Lib.run_eql_slice_nil (P := Try.prog) w 28 5 (some a) n c 0 0 Try.underlying28
    go_enter Try.func19, Try.ntmps19
    have hrow := Row.made w 5 w.heap.size 1 w.heap.size 0 #[] [] rfl (Nat.le_refl _) rfl rfl
    have b1 := (Below.refl w.heap.size w).alloc (Nat.le_refl _) (.cells #[] 5)
    have hb1 := Cells.later hb b1
    go_wp2_with (at_builtin; refine wpList_append_row rfl (.tmp 5) (.tmp 6) rfl Try.underlying28 info5 rfl (by omega) rfl hrow rfl hb1 (one_u8 l) (by omega) (by omega) (by simp) ?_; intro A2 c2 w2 hrow2 hg2 hat2 h02)
    go_ret
    simp only [Nat.zero_add, List.nil_append] at hrow2
    exact ⟨A2, c2, by simp, hrow2, b1.grown hg2 (by simp) (by intro k hk; simp at hk; omega)⟩

/-! ### A net in memory -/
/-- A message: a slice that reads as m. -/
def MsgAt (w : World) (D : Nat → Prop) (v : Value) (m : List UInt8) : Prop := ∃ A n c, v = .slice A n c ∧ Bytes w D A n m ∧ n ≤ 140737488351232
/-- The net in block p (its struct's type: τ) has the messages ms; what it may write lies in C, its messages in D. -/
def NetAt (w : World) (τ : TypeId) (C D : Nat → Prop) (p : Nat) (ms : List (List UInt8)) : Prop :=
  ∃ A n c vs, w.heap[p]? = some (.cells #[.slice A n c] τ (0, 0)) ∧ C p ∧ Row w 28 0 A n c 1 vs ∧ (∀ k, inRow A k → C k ∧ k ≠ p) ∧ n = ms.length ∧ (∀ (i : Nat) (m : List UInt8), ms[i]? = some m → ∃ v, vs[i]? = some v ∧ MsgAt w D v m) ∧ (∀ k, D k → ¬ C k) ∧ (∀ k, C k ∨ D k → k < w.heap.size)
theorem MsgAt.frame {w w' : World} {C D : Nat → Prop} {v : Value} {m : List UInt8} (h : MsgAt w D v m) (hf : Frame C w w') (hd : ∀ k, D k → ¬ C k) : MsgAt w' D v m := by
  obtain ⟨A, n, c, rfl, hb, hn⟩ := h
  exact ⟨A, n, c, rfl, Cells.frame hb hf hd, hn⟩
theorem NetAt.frame {w w' : World} {τ : TypeId} {C D E : Nat → Prop} {p : Nat} {ms : List (List UInt8)} (h : NetAt w τ C D p ms) (hf : Frame E w w') (hc : ∀ k, C k → ¬ E k) (hd : ∀ k, D k → ¬ E k) : NetAt w' τ C D p ms := by
  obtain ⟨A, n, c, vs, hp, hcp, hrow, hr, hn, hm, hap, hbd⟩ := h
  have hlt := (Array.getElem?_eq_some_iff.1 hp).1
  refine ⟨A, n, c, vs, (hf.block p hlt (hc p hcp)).trans hp, hcp, hrow.frame hf fun k hk => hc k (hr k hk).1, hr, hn, fun i m hi => ?_, hap, fun k hk => Nat.lt_of_lt_of_le (hbd k hk) hf.size⟩
  obtain ⟨v, hv, hma⟩ := hm i m hi
  exact ⟨v, hv, hma.frame hf hd⟩
theorem NetAt.cell {w : World} {τ : TypeId} {C : Nat → Prop} {p : Nat} {v : Value} (hp : w.heap[p]? = some (.cells #[v] τ (0, 0))) : w.cell? ⟨p, 0, none⟩ = some v ∧ w.frozen? ⟨p, 0, none⟩ = false := by
  refine ⟨by rw [cell_of_row _ _ _ _ _ _ hp]; rfl, ?_⟩
  unfold World.frozen?
  rw [hp]
  simp

/-- What a call of New gives. -/
def Fresh (τ : TypeId) (w : World) (e : Ending) (w' : World) : Prop := ∃ p, e = .returned (.pointer (some ⟨p, 0, none⟩)) ∧ NetAt w' τ (fun k => k = p) None p [] ∧ p = w.heap.size ∧ Below w.heap.size w w'
theorem fresh_net (w : World) (τ : TypeId) (p : Nat) (hp : p = w.heap.size) : NetAt (w.alloc (.cells #[.slice none 0 0] τ)) τ (fun k => k = p) None p [] :=
  ⟨none, 0, 0, [], by subst hp; exact heap_alloc_new w _, rfl, Row.nil _ _ _ _, fun k hk => by simp [inRow] at hk, rfl, fun i m h => by simp at h, fun k h => h.elim, fun k h => h.elim (fun (h : k = p) => by simp; omega) fun h => h.elim⟩
set_option maxHeartbeats 400000 in
theorem new_ (w : World) : Calls Try.prog 8 #[] w (Fresh 44 w) := by
  go_enter Try.func8, Try.ntmps8
  go_wp2
  go_ret
  exact ⟨w.heap.size, rfl, fresh_net w 44 _ rfl, rfl, (Below.refl _ _).alloc (Nat.le_refl _) _⟩
set_option maxHeartbeats 400000 in
theorem len_ (C D : Nat → Prop) (p : Nat) (ms : List (List UInt8)) (w : World) (h : NetAt w 44 C D p ms) : Calls Try.prog 12 #[.pointer (some ⟨p, 0, none⟩)] w fun e w' => e = .returned (.int .i64 (ms.length : Int)) ∧ w = w' := by
  obtain ⟨A, n, c, vs, hp, hcp, hrow, hr, hn, hm, hap, hbd⟩ := h
  obtain ⟨hc0, _⟩ := NetAt.cell (C := C) hp
  have HN := Lib.hid hn
  clear hn hm hap hr hbd
  go_enter Try.func12, Try.ntmps12
  go_wp2
  go_ret
  exact ⟨by rw [← HN.out]; rfl, rfl⟩

/-- A message that is told, or none. -/
def Told (w : World) (r : Option (List UInt8)) (e : Ending) (w' : World) : Prop := ∃ A n c, e = .returned (.tuple #[.slice A n c, .bool r.isSome]) ∧ Own w' w.heap.size A n c (r.getD []) ∧ n ≤ 140737488351232 ∧ Below w.heap.size w w'
/-- Which one it is. -/
def atOf (ms : List (List UInt8)) (i : Int) : Option (List UInt8) := if i < 0 then none else ms[i.toNat]?
set_option maxHeartbeats 400000 in
theorem at_ (C D : Nat → Prop) (p : Nat) (ms : List (List UInt8)) (i : Int) (w : World) (h : NetAt w 44 C D p ms) : Calls Try.prog 17 #[.pointer (some ⟨p, 0, none⟩), .int .i64 i] w (Told w (atOf ms i)) := by
  obtain ⟨A, n, c, vs, hp, hcp, hrow, hr, hn, hm, hap, hbd⟩ := h
  obtain ⟨hc0, _⟩ := NetAt.cell (C := C) hp
  by_cases h0 : i < 0
  · have HA := Lib.hid (show atOf ms i = none by unfold atOf; rw [if_pos h0])
    clear hn hm hap hr hbd
    go_enter Try.func17, Try.ntmps17
    go_wp2
    go_ret2
    exact ⟨none, 0, 0, by rw [HA.out]; rfl, by rw [HA.out]; exact Row.nil _ _ _ _, by omega, Below.refl _ _⟩
  by_cases h1 : (n : Int) ≤ i
  · have HA := Lib.hid (show atOf ms i = none by unfold atOf; rw [if_neg h0, List.getElem?_eq_none (by omega)])
    clear hn hm hap hr hbd
    go_enter Try.func17, Try.ntmps17
    go_wp2
    go_ret2
    exact ⟨none, 0, 0, by rw [HA.out]; rfl, by rw [HA.out]; exact Row.nil _ _ _ _, by omega, Below.refl _ _⟩
  obtain ⟨j, rfl⟩ := Int.eq_ofNat_of_zero_le (show 0 ≤ i by omega)
  have hj : j < n := by omega
  have hjm : j < ms.length := by omega
  have HA := Lib.hid (show atOf ms (j : Int) = some ms[j] by unfold atOf; rw [if_neg h0, Int.toNat_natCast, List.getElem?_eq_getElem hjm])
  obtain ⟨v, hv, B, k, d, rfl, hb, hk⟩ := hm j ms[j] (List.getElem?_eq_getElem hjm)
  obtain ⟨g, u, rfl, _, hlt, hnc, hvu, hcj, _⟩ := hrow.at_ hj
  rw [hv] at hvu
  obtain rfl := Option.some.inj hvu
  have Q := Lib.hid (clone B k d ms[j] D w hb hk)
  generalize ms[j] = m at *
  clear hn hm hap hr hbd hrow hb hv hvu
  go_enter Try.func17, Try.ntmps17
  go_wp2_with (go_at_call 19; refine Q.out.mono ?_; rintro e w' ⟨A2, c2, rfl, hown, hb2⟩)
  go_ret2
  exact ⟨A2, k, c2, by rw [HA.out]; rfl, by rw [HA.out]; exact hown, hk, hb2⟩

/-! ### Sending -/
/-- The net has turned. -/
def Turned (τ : TypeId) (C D : Nat → Prop) (p : Nat) (ms' : List (List UInt8)) (w w' : World) : Prop :=
  ∃ C' D', NetAt w' τ C' D' p ms' ∧ Frame C w w' ∧ (∀ k, C' k → C k ∨ w.heap.size ≤ k) ∧ (∀ k, D' k → D k ∨ w.heap.size ≤ k)
def Sent (τ : TypeId) (C D : Nat → Prop) (p : Nat) (ms : List (List UInt8)) (b : List UInt8) (w : World) (e : Ending) (w' : World) : Prop :=
  (ms.length < 400 ∧ e = .returned (.int .i64 0) ∧ Turned τ C D p (ms ++ [b]) w w') ∨ (ms.length = 400 ∧ e = .returned (.int .i64 71) ∧ w' = w)
theorem NetAt.later {w w' : World} {τ : TypeId} {C D : Nat → Prop} {p : Nat} {ms : List (List UInt8)} (h : NetAt w τ C D p ms) (hb : Below w.heap.size w w') : NetAt w' τ C D p ms := h.frame (Frame.of_below (C := None) hb) (fun _ _ hk => hk) fun _ _ hk => hk
/-- A message is doubled. -/
def Duped (τ : TypeId) (C D : Nat → Prop) (p : Nat) (ms : List (List UInt8)) (i : Int) (w : World) (e : Ending) (w' : World) : Prop :=
  (atOf ms i = none ∧ e = .returned (.int .i64 1) ∧ Below w.heap.size w w') ∨ ∃ b, atOf ms i = some b ∧ ∃ w1, Below w.heap.size w w1 ∧ Sent τ C D p ms b w1 e w'
theorem pushed {τ : TypeId} {C D : Nat → Prop} {p : Nat} {ms : List (List UInt8)} {w w1 w3 : World} (h : NetAt w τ C D p ms) {A : Option Addr} {n c : Nat} (hc0 : w.cell? ⟨p, 0, none⟩ = some (.slice A n c))
    (hb2 : Below w.heap.size w w1) {A3 : Option Addr} {n2 c3 : Nat} {l : List UInt8} (hown : Own w1 w.heap.size A3 n2 c3 l) (hn2 : n2 ≤ 140737488351232) {vs : List Value} {c4 : Nat} {A4 : Option Addr}
    (hrow : Row w 28 0 A n c 1 vs) (hrow3 : Row w3 28 0 A4 (n + 1) c4 1 (vs ++ [.slice A3 n2 c3])) (hg3 : (w1.alloc (.cells #[.slice A3 n2 c3] 28)).grownBy w3 (A.map (·.block)))
    (hat : A4.map (·.block) = A.map (·.block) ∨ A4.map (·.block) = some (w1.alloc (.cells #[.slice A3 n2 c3] 28)).heap.size) : Turned τ C D p (ms ++ [l]) w (w3.setCell ⟨p, 0, none⟩ (.slice A4 (n + 1) c4)) := by
  obtain ⟨A', n', c', vs', hp, hcp, hrow', hr, hn, hm, hap, hbd⟩ := h
  have hce := (NetAt.cell (C := C) hp).1.symm.trans hc0
  injection hce with hce
  injection hce with e1 e2 e3
  subst e1 e2 e3
  have hpl := (Array.getElem?_eq_some_iff.1 hp).1
  have hs1 := hb2.size
  have f1 : Frame None w (w1.alloc (.cells #[.slice A3 n2 c3] 28)) := (Frame.of_below hb2).alloc _
  have f3 : Frame (inRow A') w w3 := Frame.trans (f1.mono fun k _ hk => hk.elim) (Frame.grown (Frame.refl (inRow A') _) hg3 fun k hk _ => hk) fun k _ hk => hk
  have hs3 := f3.size
  have hsA : (w1.alloc (.cells #[.slice A3 n2 c3] 28)).heap.size = w1.heap.size + 1 := by simp
  have hne4 : ∀ k, inRow A4 k → k ≠ p := by
    intro k hk
    unfold inRow at hk
    rcases hat with e | e
    · rw [e] at hk
      exact (hr k hk).2
    · rw [e] at hk
      injection hk with hk
      omega
  have hA3 : ∀ k, inRow A3 k → w.heap.size ≤ k ∧ k < w1.heap.size := fun k hk => hown.block k hk
  have f3' : ∀ (E : Nat → Prop), Frame (inRow A') w1 w3 := fun E => Frame.trans ((Frame.refl None w1).alloc _ |>.mono fun k _ hk => hk.elim) (Frame.grown (Frame.refl (inRow A') _) hg3 fun k hk _ => hk) fun k _ hk => hk
  have f4 : Frame (fun k => k = p) w3 (w3.setCell ⟨p, 0, none⟩ (.slice A4 (n' + 1) c4)) := (Frame.refl (fun k => k = p) w3).setCell (p := ⟨p, 0, none⟩) (fun _ => rfl) _
  have f5 : Frame (fun k => inRow A' k ∨ k = p) w (w3.setCell ⟨p, 0, none⟩ (.slice A4 (n' + 1) c4)) := (f3.mono fun k _ hk => .inl hk).trans f4 fun k _ hk => .inr hk
  have f5' : Frame (fun k => inRow A' k ∨ k = p) w1 (w3.setCell ⟨p, 0, none⟩ (.slice A4 (n' + 1) c4)) := ((f3' None).mono fun k _ hk => .inl hk).trans f4 fun k _ hk => .inr hk
  have hCC : ∀ k, inRow A' k ∨ k = p → C k := by
    rintro k (hk | rfl)
    · exact (hr k hk).1
    · exact hcp
  have hp3 : w3.heap[p]? = some (.cells #[.slice A' n' c'] τ (0, 0)) := (f3.block p hpl fun hk => (hr p hk).2 rfl).trans hp
  refine ⟨fun k => C k ∨ inRow A4 k, fun k => D k ∨ inRow A3 k, ⟨A4, n' + 1, c4, vs ++ [.slice A3 n2 c3], ?_, .inl hcp, hrow3.frame f4 fun k hk => hne4 k hk, fun k hk => ⟨.inr hk, hne4 k hk⟩, by simp [hn], ?_, ?_, ?_⟩, f5.mono fun k _ hk => hCC k hk, ?_, ?_⟩
  · simp [World.setCell, Array.getElem?_modify, hp3]
  · intro i m hi
    rw [List.getElem?_append] at hi
    have hvl : vs.length = n' := by have := hrow.1; omega
    split at hi
    · rename_i hlt
      obtain ⟨v, hv, hma⟩ := hm i m hi
      have hvv : vs = vs' := by
        have a1 := hrow.2
        have a2 := hrow'.2
        rcases a1 with ⟨rfl, h0, _⟩ | ⟨g, cur, rfl, _, hg, _, _, ht⟩
        · have := hrow.1
          have := hrow'.1
          rw [List.eq_nil_of_length_eq_zero (l := vs) (by omega), List.eq_nil_of_length_eq_zero (l := vs') (by omega)]
        · rcases a2 with ⟨h0, _⟩ | ⟨g', cur', he, _, hg', _, _, ht'⟩
          · cases h0
          · injection he with he
            injection he with he
            subst he
            rw [hg] at hg'
            injection hg' with hg'
            injection hg' with hg'
            rw [← ht, ← ht', hg']
      subst hvv
      refine ⟨v, by rw [List.getElem?_append_left (by omega)]; exact hv, ?_⟩
      obtain ⟨B, k, d, rfl, hb, hk⟩ := hma.frame f5 fun k hk hc => hap k hk (hCC k hc)
      exact ⟨B, k, d, rfl, hb.mono fun _ _ h => .inl h, hk⟩
    · rename_i hge
      have h0 : i - ms.length = 0 := by
        have := (List.getElem?_eq_some_iff.1 hi).1
        simp at this
        omega
      rw [h0] at hi
      simp at hi
      subst hi
      refine ⟨.slice A3 n2 c3, ?_, A3, n2, c3, rfl, ?_, hn2⟩
      · rw [List.getElem?_append_right (by omega)]
        have : i - vs.length = 0 := by omega
        rw [this]
        rfl
      · have hcl : Bytes w1 (inRow A3) A3 n2 l := hown.cells
        refine (Cells.frame hcl f5' fun k hk hc => ?_).mono fun _ _ h => .inr h
        have := hA3 k hk
        have := hbd k (.inl (hCC k hc))
        omega
  · rintro k (hk | hk) (hc | hc)
    · exact hap k hk hc
    · have h1 := hbd k (.inr hk)
      unfold inRow at hc
      rcases hat with e | e
      · rw [e] at hc
        exact hap k hk (hr k hc).1
      · rw [e] at hc
        injection hc with hc
        omega
    · have := hA3 k hk
      have := hbd k (.inl hc)
      omega
    · have h1 := hA3 k hk
      unfold inRow at hc
      rcases hat with e | e
      · rw [e] at hc
        have := hbd k (.inl (hr k hc).1)
        omega
      · rw [e] at hc
        injection hc with hc
        omega
  · have hss : (w3.setCell ⟨p, 0, none⟩ (.slice A4 (n' + 1) c4)).heap.size = w3.heap.size := by simp
    have hw31 := (f3' None).size
    intro k hk
    rw [hss]
    rcases hk with (hk | hk) | (hk | hk)
    · have := hbd k (.inl hk)
      omega
    · exact (hrow3.block k hk).2
    · have := hbd k (.inr hk)
      omega
    · have := hA3 k hk
      omega
  · rintro k (hk | hk)
    · exact .inl hk
    · unfold inRow at hk
      rcases hat with e | e
      · rw [e] at hk
        exact .inl (hr k hk).1
      · rw [e] at hk
        injection hk with hk
        exact .inr (by omega)
  · rintro k (hk | hk)
    · exact .inl hk
    · exact .inr (hA3 k hk).1
set_option maxRecDepth 100000 in
set_option maxHeartbeats 2000000 in
theorem send_ (C D R : Nat → Prop) (p : Nat) (ms : List (List UInt8)) (A2 : Option Addr) (n2 c2 : Nat) (l : List UInt8) (w : World) (h : NetAt w 44 C D p ms) (hl : ms.length ≤ 400) (hb : Bytes w R A2 n2 l) (hn2 : n2 ≤ 140737488351232) :
    Calls Try.prog 9 #[.pointer (some ⟨p, 0, none⟩), .slice A2 n2 c2] w (Sent 44 C D p ms l w) := by
  have hnet := Lib.hid h
  obtain ⟨A, n, c, vs, hp, hcp, hrow, hr, hn, hm, hap, hbd⟩ := h
  obtain ⟨hc0, hf0⟩ := NetAt.cell (C := C) hp
  have hplt := (Array.getElem?_eq_some_iff.1 hp).1
  have HP := Lib.hid hp
  have HROW := Lib.hid hrow
  have HB := Lib.hid hb
  have HR := Lib.hid hr
  have HM := Lib.hid hm
  have HAP := Lib.hid hap
  clear hm hap hr hp hrow hb hbd
  by_cases h4 : n = 400
  · have h5 : ((n : Int) == 400) = true := by simp; omega
    have HN := Lib.hid hn
    clear hn
    go_enter Try.func9, Try.ntmps9
    go_wp2
    go_ret
    exact .inr ⟨by rw [← HN.out]; exact h4, by simp, rfl⟩
  · have h5 : ((n : Int) == 400) = false := by simp; omega
    have HN := Lib.hid hn
    clear hn
    go_enter Try.func9, Try.ntmps9
    go_wp2
    have Q := Lib.hid (clone A2 n2 c2 l R w.drew HB.out hn2)
    have hnep : some p ≠ A.map (·.block) := fun e => (HR.out p e.symm).2 rfl
    have hn4 : n < 400 := by have := HN.out; omega
    go_region_law (first | (refine step_append_row (by rfl) (.tmp 15) (.tmp 18) (by rfl) Try.underlying22 info28 (by rfl) (by omega) (by rfl) hrowA (by rfl) hcelA (by intro u hu; simp at hu; subst hu; rfl) (by omega) (by omega) (Nat.zero_le _) ?_; intro A4 c4 w3 hrow3 hg3 hat3 h03; have hc3 := hg3.cell hcA hnep; have hf3 := (hg3.frozen_far ⟨p, 0, none⟩ hpA hnep).trans hfA) | (go_simp; go_at_call 19; refine Q.out.mono ?_; rintro e w1 ⟨A3, c3, rfl, hown, hb2⟩; have hc1 : w1.cell? ⟨p, 0, none⟩ = some (.slice A n c) := (hb2.cell (p := ⟨p, 0, none⟩) hplt).trans hc0; have hf1 : w1.frozen? ⟨p, 0, none⟩ = false := (hb2.frozen (p := ⟨p, 0, none⟩) hplt).trans hf0; have hs1 := hb2.size; have hp1 : p < w1.heap.size := Nat.lt_of_lt_of_le hplt hb2.size; have hrowA := (HROW.out.drew.later hb2).alloc (.cells #[.slice A3 n2 c3] 28); have hcelA := (Row.made w1 28 0 1 _ 1 #[.slice A3 n2 c3] [.slice A3 n2 c3] rfl (Nat.zero_le _) rfl rfl).cells; have hcA : (w1.alloc (.cells #[.slice A3 n2 c3] 28)).cell? ⟨p, 0, none⟩ = some (.slice A n c) := (((Below.refl w1.heap.size w1).alloc (Nat.le_refl _) (.cells #[.slice A3 n2 c3] 28)).cell (p := ⟨p, 0, none⟩) hp1).trans hc1; have hfA : (w1.alloc (.cells #[.slice A3 n2 c3] 28)).frozen? ⟨p, 0, none⟩ = false := (((Below.refl w1.heap.size w1).alloc (Nat.le_refl _) (.cells #[.slice A3 n2 c3] 28)).frozen (p := ⟨p, 0, none⟩) hp1).trans hf1; have hpA : p < (w1.alloc (.cells #[.slice A3 n2 c3] 28)).heap.size := by simp; omega))
    all_goals go_wp2
    all_goals (go_ret; exact .inl ⟨by have := HN.out; omega, by simp, pushed hnet.out hc0 ⟨hb2.os, hb2.tape, hb2.output, hb2.size, hb2.block⟩ hown hn2 HROW.out hrow3 hg3 hat3⟩)

set_option maxHeartbeats 1000000 in
theorem dup_ (C D : Nat → Prop) (p : Nat) (ms : List (List UInt8)) (i : Int) (w : World) (h : NetAt w 44 C D p ms) (hl : ms.length ≤ 400) : Calls Try.prog 10 #[.pointer (some ⟨p, 0, none⟩), .int .i64 i] w (Duped 44 C D p ms i w) := by
  have QA := Lib.hid (at_ C D p ms i w h)
  have hnet := Lib.hid h
  rcases hr : atOf ms i with _ | b
  · rw [hr] at QA
    clear h
    go_enter Try.func10, Try.ntmps10
    go_wp2_with (go_at_call 17; refine QA.out.mono ?_; rintro e w1 ⟨A, n, c, rfl, hown, hn, hb⟩)
    go_ret
    exact .inl ⟨by simp [hr], by simp, hb⟩
  · rw [hr] at QA
    clear h
    go_enter Try.func10, Try.ntmps10
    go_wp2_with (first | (go_at_call 17; refine QA.out.mono ?_; rintro e w1 ⟨A, n, c, rfl, hown, hn, hb⟩; have QS := Lib.hid (send_ C D (inRow A) p ms A n c b w1 (hnet.out.later hb) hl hown.cells hn)) | (go_at_call 9; refine QS.out.mono ?_; rintro e w2 hs; have hs2 := hs; rcases hs with ⟨hlt, rfl, ht⟩ | ⟨heq, rfl, rfl⟩))
    all_goals go_ret
    · exact .inr ⟨b, hr, w1, hb, .inl ⟨hlt, rfl, ht⟩⟩
    · exact .inr ⟨b, hr, _, hb, .inr ⟨heq, rfl, rfl⟩⟩

end Go.Proofs.Ytddcfgbembjbhaa
