/- Messages under way: the head's question. -/
import Derived.Test.YtddcfgbembjbhaaNet4
import Derived.Laws.BytesString
import Derived.Laws.IdiomStrings
import Derived.Laws.StructEq
import Derived.Lib.BufferRead
import Derived.MapKept
import Derived.Lib.SmallJoins
namespace Go.Proofs.Ytddcfgbembjbhaa
open Go.RowKit
set_option linter.unusedVariables false

/-- A string's bytes. -/
def str (l : List UInt8) : ByteArray := ⟨l.toArray⟩
theorem str_list (l : List UInt8) : (str l).toList = l := ByteArray.toList_mk l
theorem str_beq (a b : List UInt8) : ((str a).toList == (str b).toList) = (a == b) := by rw [str_list, str_list]
theorem conv_str {R : Nat → Prop} {A : Option Addr} {n : Nat} {l : List UInt8} {w : World} (hb : Bytes w R A n l) (c : Nat) : (convert 28 9 (.slice A n c)).run Try.prog w = .ok (.string (str l)) w := by
  have hl := hb.len
  subst hl
  rcases A with _ | a
  · have h0 : l = [] := by
      rcases Nat.eq_zero_or_pos l.length with h | h
      · exact List.eq_nil_of_length_eq_zero h
      · obtain ⟨b, o, e, _⟩ := hb.2 h
        cases e
    subst h0
    exact Lib.run_convert_nil_bytes w 28 9 5 c Try.underlying28 Try.underlying5 Try.underlying9
  · refine run_convert_bytes_back w 28 9 5 a c l Try.underlying28 Try.underlying5 Try.underlying9 fun j hj => ?_
    obtain ⟨b, o, e, _, _, hc⟩ := hb.2 (by omega)
    injection e with e
    subst e
    rw [add_lit]
    exact hc j (u8 l[j]) (by simp [hj])

/-! ### One net, by its messages alone -/
/-- The program's net in block p; what it has lies from block b on; the blocks in X it leaves as they are. -/
def NetIn (b : Nat) (X : Nat → Prop) (w : World) (p : Nat) (ms : List (List UInt8)) : Prop :=
  ∃ C D, NetAt w 44 C D p ms ∧ (∀ k, C k ∨ D k → b ≤ k) ∧ (∀ k, X k → k < w.heap.size ∧ ¬ C k)
/-- Blocks that may turn. -/
def Turns (b : Nat) (X : Nat → Prop) (k : Nat) : Prop := b ≤ k ∧ ¬ X k
section
variable {b p : Nat} {X : Nat → Prop} {w w' w'' : World} {ms ms' : List (List UInt8)}
theorem NetAt.bound {τ : TypeId} {C D : Nat → Prop} (h : NetAt w τ C D p ms) : ∀ k, C k ∨ D k → k < w.heap.size := by
  obtain ⟨_, _, _, _, _, _, _, _, _, _, _, hbd⟩ := h
  exact hbd
theorem NetAt.head {τ : TypeId} {C D : Nat → Prop} (h : NetAt w τ C D p ms) : C p := by
  obtain ⟨_, _, _, _, _, hp, _⟩ := h
  exact hp
theorem NetAt.apart {τ : TypeId} {C D : Nat → Prop} (h : NetAt w τ C D p ms) : ∀ k, D k → ¬ C k := by
  obtain ⟨_, _, _, _, _, _, _, _, _, _, hap, _⟩ := h
  exact hap
theorem NetIn.base (h : NetIn b X w p ms) : b ≤ w.heap.size := by
  obtain ⟨C, D, hn, hb, _⟩ := h
  exact Nat.le_of_lt (Nat.lt_of_le_of_lt (hb p (.inl hn.head)) (hn.bound p (.inl hn.head)))
theorem NetIn.later (h : NetIn b X w p ms) (hb : Below w.heap.size w w') : NetIn b X w' p ms := by
  obtain ⟨C, D, hn, hB, hX⟩ := h
  exact ⟨C, D, hn.later hb, hB, fun k hk => ⟨Nat.lt_of_lt_of_le (hX k hk).1 hb.size, (hX k hk).2⟩⟩
theorem NetIn.mono {X' : Nat → Prop} (h : NetIn b X w p ms) (hX' : ∀ k, X' k → X k) : NetIn b X' w p ms := by
  obtain ⟨C, D, hn, hB, hX⟩ := h
  exact ⟨C, D, hn, hB, fun k hk => hX k (hX' k hk)⟩
theorem Turns.of_below (h : Below w.heap.size w w') : Frame (Turns b X) w w' := (Frame.of_below (C := None) h).mono fun _ _ hk => hk.elim
theorem Frame.turns {X' : Nat → Prop} (h : Frame (Turns b X) w w') (k : Frame (Turns b X') w' w'') (hX : ∀ k, X k → X' k) : Frame (Turns b X) w w'' := h.trans k fun i _ hi => ⟨hi.1, fun hx => hi.2 (hX i hx)⟩
theorem Frame.low (h : Frame (Turns b X) w w') (hb : b ≤ w.heap.size) : Below b w w' := h.below hb fun k _ hk => hk.1
theorem Cells.turns {R : Nat → Prop} {A : Option Addr} {n sz : Nat} {xs : List Value} (h : Cells w R A n sz xs) (hf : Frame (Turns b X) w w') (hR : ∀ k, R k → X k ∨ k < b) : Cells w' R A n sz xs :=
  h.frame hf fun k hk ht => (hR k hk).elim ht.2 fun hlt => by have := ht.1; omega
theorem NetIn.turned {τ : TypeId} {C D C' D' : Nat → Prop} (hn : NetAt w 44 C D p ms) (hB : ∀ k, C k ∨ D k → b ≤ k) (hX : ∀ k, X k → k < w.heap.size ∧ ¬ C k) (hn' : NetAt w' 44 C' D' p ms') (hf : Frame C w w') (hC : ∀ k, C' k → C k ∨ w.heap.size ≤ k) (hD : ∀ k, D' k → D k ∨ w.heap.size ≤ k) :
    NetIn b X w' p ms' ∧ Frame (Turns b X) w w' := by
  have hbs : b ≤ w.heap.size := Nat.le_of_lt (Nat.lt_of_le_of_lt (hB p (.inl hn.head)) (hn.bound p (.inl hn.head)))
  refine ⟨⟨C', D', hn', ?_, fun k hk => ⟨Nat.lt_of_lt_of_le (hX k hk).1 hf.size, fun hc => ?_⟩⟩, hf.mono fun k _ hk => ⟨hB k (.inl hk), fun hx => (hX k hx).2 hk⟩⟩
  · rintro k (hk | hk)
    · exact (hC k hk).elim (fun h => hB k (.inl h)) fun h => Nat.le_trans hbs h
    · exact (hD k hk).elim (fun h => hB k (.inr h)) fun h => Nat.le_trans hbs h
  · have h1 := hX k hk
    rcases hC k hc with h | h
    · exact h1.2 h
    · omega
end
def full (ms : List (List UInt8)) : Bool := decide (400 ≤ ms.length)
/-- Sent: what it answers, what is under way then. -/
def sendE (ms : List (List UInt8)) : Int := if ms.length < 400 then 0 else 71
def sendL (ms : List (List UInt8)) (l : List UInt8) : List (List UInt8) := if ms.length < 400 then ms ++ [l] else ms
def dupE (ms : List (List UInt8)) (i : Int) : Int := match atOf ms i with
  | none => 1
  | some _ => sendE ms
def dupL (ms : List (List UInt8)) (i : Int) : List (List UInt8) := match atOf ms i with
  | none => ms
  | some b => sendL ms b
def takeL (ms : List (List UInt8)) (i : Int) : List (List UInt8) := match atOf ms i with
  | none => ms
  | some _ => ms.eraseIdx i.toNat
def Gave (b : Nat) (X : Nat → Prop) (p : Nat) (v : Value) (ms : List (List UInt8)) (w : World) (e : Ending) (w' : World) : Prop := e = .returned v ∧ NetIn b X w' p ms ∧ Frame (Turns b X) w w'
def Gives (b : Nat) (X : Nat → Prop) (p : Nat) (r : Option (List UInt8)) (ms : List (List UInt8)) (w : World) (e : Ending) (w' : World) : Prop :=
  ∃ A n c Y, e = .returned (.tuple #[.slice A n c, .bool r.isSome]) ∧ Bytes w' Y A n (r.getD []) ∧ n ≤ 140737488351232 ∧ NetIn b (fun k => X k ∨ Y k) w' p ms ∧ Frame (Turns b X) w w'
section
variable (b p : Nat) (X : Nat → Prop) (ms : List (List UInt8)) (w : World)
theorem new_in (hb : b ≤ w.heap.size) : Calls Try.prog 8 #[] w fun e w' => ∃ p, Gave b None p (.pointer (some ⟨p, 0, none⟩)) [] w e w' := by
  refine (new_ w).mono ?_
  rintro e w' ⟨p, rfl, hn, hp, hbl⟩
  exact ⟨p, rfl, ⟨_, _, hn, fun k hk => by rcases hk with hk | hk; exact hk ▸ hp ▸ hb; exact hk.elim, fun k hk => hk.elim⟩, Turns.of_below hbl⟩
theorem len_in (h : NetIn b X w p ms) : Calls Try.prog 12 #[.pointer (some ⟨p, 0, none⟩)] w fun e w' => e = .returned (.int .i64 (ms.length : Int)) ∧ w = w' := by
  obtain ⟨C, D, hn, _⟩ := h
  exact len_ C D p ms w hn
theorem send_in (h : NetIn b X w p ms) (hl : ms.length ≤ 400) {R : Nat → Prop} {A : Option Addr} {n : Nat} (c : Nat) {l : List UInt8} (hb : Bytes w R A n l) (hn : n ≤ 140737488351232) :
    Calls Try.prog 9 #[.pointer (some ⟨p, 0, none⟩), .slice A n c] w (Gave b X p (.int .i64 (sendE ms)) (sendL ms l) w) := by
  obtain ⟨C, D, hnet, hB, hX⟩ := h
  refine (send_ C D R p ms A n c l w hnet hl hb hn).mono ?_
  rintro e w' (⟨hlt, rfl, C', D', h1, h2, h3, h4⟩ | ⟨heq, rfl, rfl⟩)
  · unfold sendE sendL
    rw [if_pos hlt, if_pos hlt]
    exact ⟨rfl, NetIn.turned (τ := 44) hnet hB hX h1 h2 h3 h4⟩
  · unfold sendE sendL
    rw [if_neg (by omega), if_neg (by omega)]
    exact ⟨rfl, ⟨C, D, hnet, hB, hX⟩, Frame.refl _ _⟩
theorem dup_in (h : NetIn b X w p ms) (hl : ms.length ≤ 400) (i : Int) : Calls Try.prog 10 #[.pointer (some ⟨p, 0, none⟩), .int .i64 i] w (Gave b X p (.int .i64 (dupE ms i)) (dupL ms i) w) := by
  have h0 := h
  obtain ⟨C, D, hnet, hB, hX⟩ := h
  refine (dup_ C D p ms i w hnet hl).mono ?_
  unfold dupE dupL
  rintro e w' (⟨hr, rfl, hb⟩ | ⟨m, hr, w1, hb, (⟨hlt, rfl, C', D', h1, h2, h3, h4⟩ | ⟨heq, rfl, rfl⟩)⟩)
  · rw [hr]
    exact ⟨rfl, h0.later hb, Turns.of_below hb⟩
  · rw [hr]
    simp only [sendE, sendL, if_pos hlt]
    have hnet1 := hnet.later hb
    have hX1 : ∀ k, X k → k < w1.heap.size ∧ ¬ C k := fun k hk => ⟨Nat.lt_of_lt_of_le (hX k hk).1 hb.size, (hX k hk).2⟩
    obtain ⟨r1, r2⟩ := NetIn.turned (τ := 44) hnet1 hB hX1 h1 h2 h3 h4
    exact ⟨rfl, r1, (Turns.of_below hb).turns r2 fun _ h => h⟩
  · rw [hr]
    simp only [sendE, sendL, if_neg (show ¬ ms.length < 400 by omega)]
    exact ⟨rfl, h0.later hb, Turns.of_below hb⟩
theorem at_in (h : NetIn b X w p ms) (i : Int) : Calls Try.prog 17 #[.pointer (some ⟨p, 0, none⟩), .int .i64 i] w (Gives b X p (atOf ms i) ms w) := by
  have h0 := h
  obtain ⟨C, D, hnet, hB, hX⟩ := h
  refine (at_ C D p ms i w hnet).mono ?_
  rintro e w' ⟨A, n, c, rfl, hown, hn, hb⟩
  refine ⟨A, n, c, inRow A, rfl, hown.cells, hn, ⟨C, D, hnet.later hb, hB, ?_⟩, Turns.of_below hb⟩
  rintro k (hk | hk)
  · exact ⟨Nat.lt_of_lt_of_le (hX k hk).1 hb.size, (hX k hk).2⟩
  · have h1 := hown.block k hk
    exact ⟨h1.2, fun hc => by have := hnet.bound k (.inl hc); omega⟩
theorem take_in (h : NetIn b X w p ms) (hl : ms.length ≤ 400) (i : Int) : Calls Try.prog 11 #[.pointer (some ⟨p, 0, none⟩), .int .i64 i] w (Gives b X p (atOf ms i) (takeL ms i) w) := by
  have h0 := h
  obtain ⟨C, D, hnet, hB, hX⟩ := h
  refine (take_ C D p ms i w hnet hl).mono ?_
  unfold takeL
  rintro e w' (⟨hr, ⟨A, c, rfl⟩, hb⟩ | ⟨m, A, n, c, C', Y, hr, rfl, hbs, hn, h1, h2, h3, h4⟩)
  · rw [hr]
    exact ⟨A, 0, c, None, rfl, Cells.none_ _ _ _ _, by omega, (h0.later hb).mono fun k hk => hk.elim id fun h => h.elim, Turns.of_below hb⟩
  · rw [hr]
    obtain ⟨⟨C2, D2, r1, r2, r3⟩, r4⟩ := NetIn.turned (τ := 44) hnet hB hX h1 h2 h3 fun k hk => .inl hk
    refine ⟨A, n, c, fun k => Y k ∧ k < w'.heap.size, rfl, hbs.mono fun k hk hy => ⟨hy, hk⟩, hn, ⟨C', D, h1, fun k hk => ?_, ?_⟩, r4⟩
    · rcases hk with hk | hk
      · exact (h3 k hk).elim (fun h => hB k (.inl h)) fun h => Nat.le_trans h0.base h
      · exact hB k (.inr hk)
    · rintro k (hk | hk)
      · have := hX k hk
        exact ⟨Nat.lt_of_lt_of_le this.1 h2.size, fun hc => (h3 k hc).elim this.2 fun h => by omega⟩
      · exact ⟨hk.2, (h4 k hk.1).1⟩
theorem drop_in (h : NetIn b X w p ms) (hl : ms.length ≤ 400) (i : Int) : Calls Try.prog 15 #[.pointer (some ⟨p, 0, none⟩), .int .i64 i] w (Gave b X p (.bool (atOf ms i).isSome) (takeL ms i) w) := by
  have h0 := h
  obtain ⟨C, D, hnet, hB, hX⟩ := h
  refine (drop_ C D p ms i w hnet hl).mono ?_
  unfold takeL
  rintro e w' (⟨hr, rfl, hb⟩ | ⟨m, C', hr, rfl, h1, h2, h3⟩)
  · rw [hr]
    exact ⟨rfl, h0.later hb, Turns.of_below hb⟩
  · rw [hr]
    exact ⟨rfl, NetIn.turned (τ := 44) hnet hB hX h1 h2 h3 fun k hk => .inl hk⟩
end
theorem a_src (w : World) : Bytes (w.alloc (.cells #[.int .u8 97] 5 (1, 2))) (fun k => k = w.heap.size) (some ⟨w.heap.size, 0, none⟩) 1 [97] := by
  refine ⟨rfl, fun _ => ⟨w.heap.size, 0, rfl, by simp, rfl, fun j u hu => ?_⟩⟩
  rw [Nat.zero_add, World.cell?_alloc_mark]
  rcases j with _ | j
  · simpa [u8] using hu
  · simp at hu
set_option maxRecDepth 100000 in
set_option maxHeartbeats 2000000 in
theorem head (w : World) : Calls Try.prog 7 #[] w fun e w' => e = .returned (.bool true) ∧ Below w.heap.size w w' := by
  have Q8 := Lib.hid (new_in w.heap.size w (Nat.le_refl _))
  have kc := fun (w : World) (C : Array Value) (n c : Nat) => Lib.run_convert_bytes_const (P := Try.prog) w 28 5 C n c Try.underlying28 Try.underlying5
  have ks := Lib.hid (fun (w : World) => a_src w)
  have hsl : ((str [97]).toList == [97]) = true := by rw [str_list]; rfl
  go_enter Try.func7, Try.ntmps7
  go_wp2_with (first
    | (go_at_call 8; refine Q8.out.mono ?_; rintro e w1 ⟨p, rfl, hn1, hf1⟩; have hn1' := hn1.later ((Below.refl w1.heap.size w1).alloc (Nat.le_refl _) (.cells #[.int .u8 97] 5 (1, 2))); have hf1' := hf1.alloc (.cells #[.int .u8 97] 5 (1, 2)))
    | (go_at_call 9; refine (show Calls _ _ _ _ (Gave _ _ p (.int .i64 0) [[97]] _) from send_in _ p _ _ _ hn1' (by simp) 1 (ks.out w1) (by omega)).mono ?_; rintro e w2 ⟨rfl, hn2, hf2⟩)
    | (go_at_call 10; refine (show Calls _ _ _ _ (Gave _ _ p (.int .i64 1) [[97]] _) from dup_in _ p _ _ _ hn4 (by decide) 5).mono ?_; rintro e w5 ⟨rfl, hn5, hf5⟩)
    | (go_at_call 10; refine (show Calls _ _ _ _ (Gave _ _ p (.int .i64 0) [[97], [97]] _) from dup_in _ p _ _ _ hn2 (by decide) 0).mono ?_; rintro e w3 ⟨rfl, hn3, hf3⟩)
    | (go_at_call 11; refine (show Calls _ _ _ _ (Gives _ _ p (some [97]) [[97]] _) from take_in _ p _ _ _ hn3 (by decide) 0).mono ?_; rintro e w4 ⟨A, n, c, Y, rfl, hbs, _, hn4, hf4⟩; have hcv := conv_str hbs c)
    | (go_at_call 12; refine (show Calls _ _ _ _ (fun e w' => e = .returned (.int .i64 1) ∧ w4 = w') from len_in _ p _ _ _ hn4).mono ?_; rintro e w' ⟨rfl, rfl⟩))
  go_ret
  exact ⟨by simp, ((hf1'.turns (hf2.turns (hf3.turns (hf4.turns hf5 fun _ h => h.elim) fun _ h => h) fun _ h => h) fun _ h => h)).low (Nat.le_refl _)⟩
end Go.Proofs.Ytddcfgbembjbhaa
