/- Two nets side by side. -/
import Derived.Test.YtddcfgbembjbhaaOps
namespace Go.Proofs.Ytddcfgbembjbhaa
open Go.RowKit
set_option linter.unusedVariables false
/-- Two nets in blocks p and q; what they have lies from block b on, apart; the blocks in X they leave as they are, those in Z are none of theirs. -/
def Pair (τ1 τ2 : TypeId) (b : Nat) (X Z : Nat → Prop) (w : World) (p q : Nat) (ms1 ms2 : List (List UInt8)) : Prop :=
  ∃ C1 D1 C2 D2, NetAt w τ1 C1 D1 p ms1 ∧ NetAt w τ2 C2 D2 q ms2 ∧ (∀ k, (C1 k ∨ D1 k) ∨ (C2 k ∨ D2 k) → b ≤ k) ∧ (∀ k, C1 k ∨ D1 k → ¬ (C2 k ∨ D2 k)) ∧ (∀ k, X k → k < w.heap.size ∧ ¬ C1 k ∧ ¬ C2 k) ∧ (∀ k, Z k → X k ∧ ¬ D1 k ∧ ¬ D2 k)
section
variable {τ1 τ2 : TypeId} {b p q : Nat} {X Z : Nat → Prop} {w w' : World} {ms1 ms2 ms1' : List (List UInt8)}
theorem Pair.swap (h : Pair τ1 τ2 b X Z w p q ms1 ms2) : Pair τ2 τ1 b X Z w q p ms2 ms1 := by
  obtain ⟨C1, D1, C2, D2, h1, h2, h3, h4, h5, h6⟩ := h
  exact ⟨C2, D2, C1, D1, h2, h1, fun k hk => h3 k hk.symm, fun k hk hn => h4 k hn hk, fun k hk => ⟨(h5 k hk).1, (h5 k hk).2.2, (h5 k hk).2.1⟩, fun k hk => ⟨(h6 k hk).1, (h6 k hk).2.2, (h6 k hk).2.1⟩⟩
theorem Pair.base (h : Pair τ1 τ2 b X Z w p q ms1 ms2) : b ≤ w.heap.size := by
  obtain ⟨C1, D1, C2, D2, h1, _, h3, _⟩ := h
  exact Nat.le_of_lt (Nat.lt_of_le_of_lt (h3 p (.inl (.inl h1.head))) (h1.bound p (.inl h1.head)))
theorem Pair.later (h : Pair τ1 τ2 b X Z w p q ms1 ms2) (hb : Below w.heap.size w w') : Pair τ1 τ2 b X Z w' p q ms1 ms2 := by
  obtain ⟨C1, D1, C2, D2, h1, h2, h3, h4, h5, h6⟩ := h
  exact ⟨C1, D1, C2, D2, h1.later hb, h2.later hb, h3, h4, fun k hk => ⟨Nat.lt_of_lt_of_le (h5 k hk).1 hb.size, (h5 k hk).2⟩, h6⟩
theorem Pair.mono {X' Z' : Nat → Prop} (h : Pair τ1 τ2 b X Z w p q ms1 ms2) (hX : ∀ k, X' k → X k) (hZ : ∀ k, Z' k → X' k ∧ Z k) : Pair τ1 τ2 b X' Z' w p q ms1 ms2 := by
  obtain ⟨C1, D1, C2, D2, h1, h2, h3, h4, h5, h6⟩ := h
  exact ⟨C1, D1, C2, D2, h1, h2, h3, h4, fun k hk => h5 k (hX k hk), fun k hk => ⟨(hZ k hk).1, (h6 k (hZ k hk).2).2⟩⟩
theorem Pair.fresh {Y : Nat → Prop} (h : Pair τ1 τ2 b X Z w p q ms1 ms2) (hb : Below w.heap.size w w') (hY : ∀ k, Y k → w.heap.size ≤ k ∧ k < w'.heap.size) : Pair τ1 τ2 b (fun k => X k ∨ Y k) (fun k => Z k ∨ Y k) w' p q ms1 ms2 := by
  obtain ⟨C1, D1, C2, D2, h1, h2, h3, h4, h5, h6⟩ := h
  have n1 : ∀ k, Y k → ¬ (C1 k ∨ D1 k) := fun k hk hc => by have := h1.bound k hc; have := hY k hk; omega
  have n2 : ∀ k, Y k → ¬ (C2 k ∨ D2 k) := fun k hk hc => by have := h2.bound k hc; have := hY k hk; omega
  refine ⟨C1, D1, C2, D2, h1.later hb, h2.later hb, h3, h4, fun k hk => ?_, fun k hk => ?_⟩
  · rcases hk with hk | hk
    · exact ⟨Nat.lt_of_lt_of_le (h5 k hk).1 hb.size, (h5 k hk).2⟩
    · exact ⟨(hY k hk).2, fun hc => n1 k hk (.inl hc), fun hc => n2 k hk (.inl hc)⟩
  · rcases hk with hk | hk
    · exact ⟨.inl (h6 k hk).1, (h6 k hk).2⟩
    · exact ⟨.inr hk, fun hc => n1 k hk (.inr hc), fun hc => n2 k hk (.inr hc)⟩
theorem Pair.wrote {E : Nat → Prop} (h : Pair τ1 τ2 b X Z w p q ms1 ms2) (hf : Frame E w w') (hE : ∀ k, E k → Z k) : Pair τ1 τ2 b X Z w' p q ms1 ms2 := by
  obtain ⟨C1, D1, C2, D2, h1, h2, h3, h4, h5, h6⟩ := h
  have n1 : ∀ k, E k → ¬ C1 k ∧ ¬ D1 k ∧ ¬ C2 k ∧ ¬ D2 k := fun k hk => ⟨(h5 k (h6 k (hE k hk)).1).2.1, (h6 k (hE k hk)).2.1, (h5 k (h6 k (hE k hk)).1).2.2, (h6 k (hE k hk)).2.2⟩
  exact ⟨C1, D1, C2, D2, h1.frame hf (fun k hk he => (n1 k he).1 hk) fun k hk he => (n1 k he).2.1 hk, h2.frame hf (fun k hk he => (n1 k he).2.2.1 hk) fun k hk he => (n1 k he).2.2.2 hk, h3, h4, fun k hk => ⟨Nat.lt_of_lt_of_le (h5 k hk).1 hf.size, (h5 k hk).2⟩, h6⟩
theorem Pair.turned {C1 D1 C2 D2 C1' D1' : Nat → Prop} (h1 : NetAt w τ1 C1 D1 p ms1) (h2 : NetAt w τ2 C2 D2 q ms2) (h3 : ∀ k, (C1 k ∨ D1 k) ∨ (C2 k ∨ D2 k) → b ≤ k) (h4 : ∀ k, C1 k ∨ D1 k → ¬ (C2 k ∨ D2 k)) (h5 : ∀ k, X k → k < w.heap.size ∧ ¬ C1 k ∧ ¬ C2 k) (h6 : ∀ k, Z k → X k ∧ ¬ D1 k ∧ ¬ D2 k)
    (hn : NetAt w' τ1 C1' D1' p ms1') (hf : Frame C1 w w') (hC : ∀ k, C1' k → C1 k ∨ w.heap.size ≤ k) (hD : ∀ k, D1' k → D1 k ∨ w.heap.size ≤ k) : Pair τ1 τ2 b X Z w' p q ms1' ms2 ∧ Frame (Turns b X) w w' := by
  have hbs : b ≤ w.heap.size := Nat.le_of_lt (Nat.lt_of_le_of_lt (h3 p (.inl (.inl h1.head))) (h1.bound p (.inl h1.head)))
  refine ⟨⟨C1', D1', C2, D2, hn, h2.frame hf (fun k hk hc => h4 k (.inl hc) (.inl hk)) (fun k hk hc => h4 k (.inl hc) (.inr hk)), fun k hk => ?_, fun k hk hc => ?_, fun k hk => ⟨Nat.lt_of_lt_of_le (h5 k hk).1 hf.size, fun hc => ?_, (h5 k hk).2.2⟩, fun k hk => ⟨(h6 k hk).1, fun hd => ?_, (h6 k hk).2.2⟩⟩, hf.mono fun k _ hk => ⟨h3 k (.inl (.inl hk)), fun hx => (h5 k hx).2.1 hk⟩⟩
  · rcases hk with (hk | hk) | hk
    · exact (hC k hk).elim (fun h => h3 k (.inl (.inl h))) fun h => Nat.le_trans hbs h
    · exact (hD k hk).elim (fun h => h3 k (.inl (.inr h))) fun h => Nat.le_trans hbs h
    · exact h3 k (.inr hk)
  · have hlt := h2.bound k hc
    rcases hk with hk | hk
    · exact (hC k hk).elim (fun h => h4 k (.inl h) hc) fun h => by omega
    · exact (hD k hk).elim (fun h => h4 k (.inr h) hc) fun h => by omega
  · have := h5 k hk
    exact (hC k hc).elim this.2.1 fun h => by omega
  · have := h5 k (h6 k hk).1
    exact (hD k hd).elim (h6 k hk).2.1 fun h => by omega
/-- What is answered, and the two nets then. -/
def GaveP (τ1 τ2 : TypeId) (b : Nat) (X Z : Nat → Prop) (p q : Nat) (v : Value) (ms1 ms2 : List (List UInt8)) (w : World) (e : Ending) (w' : World) : Prop := e = .returned v ∧ Pair τ1 τ2 b X Z w' p q ms1 ms2 ∧ Frame (Turns b X) w w'
def GivesP (τ1 τ2 : TypeId) (b : Nat) (X Z : Nat → Prop) (p q : Nat) (r : Option (List UInt8)) (ms1 ms2 : List (List UInt8)) (w : World) (e : Ending) (w' : World) : Prop :=
  ∃ A n c Y, e = .returned (.tuple #[.slice A n c, .bool r.isSome]) ∧ Bytes w' Y A n (r.getD []) ∧ Pair τ1 τ2 b (fun k => X k ∨ Y k) Z w' p q ms1 ms2 ∧ Frame (Turns b X) w w'
theorem Pair.send {f : FuncId} {args : Array Value} {l : List UInt8} (h : Pair τ1 τ2 b X Z w p q ms1 ms2) (hc : ∀ C D, NetAt w τ1 C D p ms1 → Calls Try.prog f args w (Sent τ1 C D p ms1 l w)) : Calls Try.prog f args w (GaveP τ1 τ2 b X Z p q (.int .i64 (sendE ms1)) (sendL ms1 l) ms2 w) := by
  have h0 := h
  obtain ⟨C1, D1, C2, D2, h1, h2, h3, h4, h5, h6⟩ := h
  refine (hc C1 D1 h1).mono ?_
  unfold sendE sendL
  rintro e w' (⟨hlt, rfl, C', D', g1, g2, g3, g4⟩ | ⟨heq, rfl, rfl⟩)
  · rw [if_pos hlt, if_pos hlt]
    exact ⟨rfl, Pair.turned h1 h2 h3 h4 h5 h6 g1 g2 g3 g4⟩
  · rw [if_neg (by omega), if_neg (by omega)]
    exact ⟨rfl, h0, Frame.refl _ _⟩
theorem Pair.dup {f : FuncId} {args : Array Value} {i : Int} (h : Pair τ1 τ2 b X Z w p q ms1 ms2) (hc : ∀ C D, NetAt w τ1 C D p ms1 → Calls Try.prog f args w (Duped τ1 C D p ms1 i w)) : Calls Try.prog f args w (GaveP τ1 τ2 b X Z p q (.int .i64 (dupE ms1 i)) (dupL ms1 i) ms2 w) := by
  have h0 := h
  obtain ⟨C1, D1, C2, D2, h1, h2, h3, h4, h5, h6⟩ := h
  refine (hc C1 D1 h1).mono ?_
  unfold dupE dupL
  rintro e w' (⟨hr, rfl, hb⟩ | ⟨m, hr, w1, hb, (⟨hlt, rfl, C', D', g1, g2, g3, g4⟩ | ⟨heq, rfl, rfl⟩)⟩)
  · rw [hr]
    exact ⟨rfl, h0.later hb, Turns.of_below hb⟩
  · rw [hr]
    simp only [sendE, sendL, if_pos hlt]
    obtain ⟨r1, r2⟩ := Pair.turned (X := X) (Z := Z) (h1.later hb) (h2.later hb) h3 h4 (fun k hk => ⟨Nat.lt_of_lt_of_le (h5 k hk).1 hb.size, (h5 k hk).2⟩) h6 g1 g2 g3 g4
    exact ⟨rfl, r1, (Turns.of_below hb).turns r2 fun _ h => h⟩
  · rw [hr]
    simp only [sendE, sendL, if_neg (show ¬ ms1.length < 400 by omega)]
    exact ⟨rfl, h0.later hb, Turns.of_below hb⟩
theorem Pair.take {f : FuncId} {args : Array Value} {i : Int} (h : Pair τ1 τ2 b X Z w p q ms1 ms2) (hc : ∀ C D, NetAt w τ1 C D p ms1 → Calls Try.prog f args w (Taken τ1 C D p ms1 i w)) : Calls Try.prog f args w (GivesP τ1 τ2 b X Z p q (atOf ms1 i) (takeL ms1 i) ms2 w) := by
  have h0 := h
  obtain ⟨C1, D1, C2, D2, h1, h2, h3, h4, h5, h6⟩ := h
  refine (hc C1 D1 h1).mono ?_
  unfold takeL
  rintro e w' (⟨hr, ⟨A, c, rfl⟩, hb⟩ | ⟨m, A, n, c, C', Y, hr, rfl, hbs, hn, g1, g2, g3, g4⟩)
  · rw [hr]
    exact ⟨A, 0, c, None, rfl, Cells.none_ _ _ _ _, (h0.later hb).mono (fun k hk => hk.elim id fun h => h.elim) (fun k hk => ⟨.inl (h6 k hk).1, hk⟩), Turns.of_below hb⟩
  · rw [hr]
    obtain ⟨r0, r4⟩ := Pair.turned (X := X) (Z := Z) h1 h2 h3 h4 h5 h6 g1 g2 g3 fun k hk => .inl hk
    have hbs' := h0.base
    refine ⟨A, n, c, fun k => Y k ∧ k < w'.heap.size, rfl, hbs.mono fun k hk hy => ⟨hy, hk⟩, ⟨C', D1, C2, D2, g1, h2.frame g2 (fun k hk hc => h4 k (.inl hc) (.inl hk)) (fun k hk hc => h4 k (.inl hc) (.inr hk)), fun k hk => ?_, fun k hk hc => ?_, fun k hk => ?_, fun k hk => ⟨.inl (h6 k hk).1, (h6 k hk).2⟩⟩, r4⟩
    · rcases hk with (hk | hk) | hk
      · exact (g3 k hk).elim (fun h => h3 k (.inl (.inl h))) fun h => Nat.le_trans hbs' h
      · exact h3 k (.inl (.inr hk))
      · exact h3 k (.inr hk)
    · have hlt := h2.bound k hc
      rcases hk with hk | hk
      · exact (g3 k hk).elim (fun h => h4 k (.inl h) hc) fun h => by omega
      · exact h4 k (.inr hk) hc
    · rcases hk with hk | hk
      · have := h5 k hk
        exact ⟨Nat.lt_of_lt_of_le this.1 g2.size, fun hc => (g3 k hc).elim this.2.1 fun h => by omega, this.2.2⟩
      · refine ⟨hk.2, (g4 k hk.1).1, fun hc => ?_⟩
        rcases (g4 k hk.1).2 with h | h
        · exact h4 k (.inr h) (.inl hc)
        · have := h2.bound k (.inl hc)
          omega
theorem Pair.drop {f : FuncId} {args : Array Value} {i : Int} (h : Pair τ1 τ2 b X Z w p q ms1 ms2) (hc : ∀ C D, NetAt w τ1 C D p ms1 → Calls Try.prog f args w (Dropped τ1 C D p ms1 i w)) : Calls Try.prog f args w (GaveP τ1 τ2 b X Z p q (.bool (atOf ms1 i).isSome) (takeL ms1 i) ms2 w) := by
  have h0 := h
  obtain ⟨C1, D1, C2, D2, h1, h2, h3, h4, h5, h6⟩ := h
  refine (hc C1 D1 h1).mono ?_
  unfold takeL
  rintro e w' (⟨hr, rfl, hb⟩ | ⟨m, C', hr, rfl, g1, g2, g3⟩)
  · rw [hr]
    exact ⟨rfl, h0.later hb, Turns.of_below hb⟩
  · rw [hr]
    exact ⟨rfl, Pair.turned h1 h2 h3 h4 h5 h6 g1 g2 g3 fun k hk => .inl hk⟩
end
section
variable {b p q : Nat} {X Z : Nat → Prop} {w : World} {ms1 ms2 : List (List UInt8)}
theorem Pair.at_ (h : Pair 44 37 b X Z w p q ms1 ms2) (i : Int) : Calls Try.prog 17 #[.pointer (some ⟨p, 0, none⟩), .int .i64 i] w (Told w (atOf ms1 i)) := by
  obtain ⟨C1, D1, C2, D2, h1, _⟩ := h
  exact Ytddcfgbembjbhaa.at_ C1 D1 p ms1 i w h1
theorem Pair.shown (h : Pair 44 37 b X Z w p q ms1 ms2) (i : Int) : Calls Try.prog 18 #[.pointer (some ⟨q, 0, none⟩), .int .i64 i] w fun e w' => ∃ Y, Shown w Y (atOf ms2 i) e w' := by
  obtain ⟨C1, D1, C2, D2, _, h2, _⟩ := h
  exact (refat C2 D2 q ms2 i w h2).mono fun e w' h => ⟨D2, h⟩
theorem Pair.len (h : Pair 44 37 b X Z w p q ms1 ms2) : Calls Try.prog 12 #[.pointer (some ⟨p, 0, none⟩)] w fun e w' => e = .returned (.int .i64 (ms1.length : Int)) ∧ w = w' := by
  obtain ⟨C1, D1, C2, D2, h1, _⟩ := h
  exact len_ C1 D1 p ms1 w h1
theorem Pair.cell (h : Pair 44 37 b X Z w p q ms1 ms2) : ∃ A c, w.cell? ⟨q, 0, none⟩ = some (.slice A ms2.length c) := by
  obtain ⟨C1, D1, C2, D2, _, h2, _⟩ := h
  obtain ⟨A, n, c, vs, hp, _, _, _, rfl, _⟩ := h2
  exact ⟨A, c, (NetAt.cell (C := C2) hp).1⟩
end
end Go.Proofs.Ytddcfgbembjbhaa
