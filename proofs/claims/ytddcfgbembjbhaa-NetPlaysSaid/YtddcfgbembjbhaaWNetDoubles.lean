/- NetDoubles, walked. -/
import Derived.Test.YtddcfgbembjbhaaNet5
namespace Go.Proofs.Ytddcfgbembjbhaa
open Go.RowKit
set_option linter.unusedVariables false

/-- A list of messages that is read. -/
def Lists (w : World) (R : Nat → Prop) (A : Option Addr) (n : Nat) (ms : List (List UInt8)) : Prop :=
  ∃ vs, Cells w R A n 1 vs ∧ n = ms.length ∧ ∀ (i : Nat) (m : List UInt8), ms[i]? = some m → ∃ v, vs[i]? = some v ∧ MsgAt w R v m
theorem Lists.frame {w w' : World} {C R : Nat → Prop} {A : Option Addr} {n : Nat} {ms : List (List UInt8)} (h : Lists w R A n ms) (hf : Frame C w w') (hd : ∀ k, R k → ¬ C k) : Lists w' R A n ms := by
  obtain ⟨vs, hc, hn, hm⟩ := h
  refine ⟨vs, hc.frame hf hd, hn, fun i m hi => ?_⟩
  obtain ⟨v, hv, hma⟩ := hm i m hi
  exact ⟨v, hv, hma.frame hf hd⟩
theorem Lists.below {w w' : World} {b : Nat} {A : Option Addr} {n : Nat} {ms : List (List UInt8)} (h : Lists w (fun k => k < b) A n ms) (hb : Below b w w') : Lists w' (fun k => k < b) A n ms :=
  h.frame (C := fun k => b ≤ k) ⟨hb.os, hb.tape, hb.output, hb.size, fun k _ hk => hb.block k (by omega)⟩ fun k hk hc => by omega
theorem Frame.of_below_at {b : Nat} {w w' : World} (hb : Below b w w') : Frame (fun k => b ≤ k) w w' := ⟨hb.os, hb.tape, hb.output, hb.size, fun k _ hk => hb.block k (by omega)⟩
theorem Lists.at_ {w : World} {R : Nat → Prop} {A : Option Addr} {n : Nat} {ms : List (List UInt8)} (h : Lists w R A n ms) {i : Nat} (hi : i < n) :
    ∃ b o B k d m, A = some ⟨b, o, none⟩ ∧ w.cell? ⟨b, o + i, none⟩ = some (.slice B k d) ∧ ms[i]? = some m ∧ Bytes w R B k m ∧ k ≤ 140737488351232 ∧ b < w.heap.size := by
  obtain ⟨vs, hc, hn, hm⟩ := h
  obtain ⟨b, o, rfl, hbl, _, hcc⟩ := hc.2 (by omega)
  obtain ⟨v, hv, B, k, d, rfl, hb, hk⟩ := hm i (ms[i]'(by omega)) (List.getElem?_eq_getElem (by omega))
  exact ⟨b, o, B, k, d, _, rfl, hcc i _ hv, List.getElem?_eq_getElem (by omega), hb, hk, hbl⟩
theorem Cells.drewN {w : World} {R : Nat → Prop} {A : Option Addr} {n sz : Nat} {xs : List Value} (h : Cells w R A n sz xs) (N : Nat) : Cells (w.drewN N) R A n sz xs := h
theorem NetIn.drewN {b p : Nat} {X : Nat → Prop} {w : World} {ms : List (List UInt8)} (h : NetIn b X w p ms) (N : Nat) : NetIn b X (w.drewN N) p ms := h.later ⟨rfl, rfl, rfl, Nat.le_refl _, fun _ _ => rfl⟩
set_option maxRecDepth 100000 in
set_option maxHeartbeats 4000000 in
theorem walkNetDoubles (w : World) (A : Option Addr) (n c : Nat) (ms : List (List UInt8)) (hl : Lists w (fun k => k < w.heap.size) A n ms) (hc : n ≤ c) (x : Int) (hx : 0 ≤ x ∧ x ≤ 255) :
    Calls Try.prog 3 #[.slice A n c, .int .u8 x] w fun e w' => e = .returned (.bool true) ∧ Below w.heap.size w w' := by
  have Q7 := Lib.hid (head w)
  have Q8 := Lib.hid (fun (w1 : World) (hb : Below w.heap.size w w1) => new_in w.heap.size w1 hb.size)
  have HL := Lib.hid hl
  have hnl : n = ms.length := by
    obtain ⟨_, _, h, _⟩ := hl
    exact h
  clear hl
  by_cases h0 : n = 0
  · have h0' : ((n : Int) == 0) = true := by simp; omega
    clear hnl h0
    go_enter Try.func3, Try.ntmps3
    go_wp2_with (first
      | (go_at_call 7; refine Q7.out.mono ?_; rintro e w1 ⟨rfl, hb1⟩)
      | (go_at_call 8; refine (Q8.out _ hb1).mono ?_; rintro e w2 ⟨p, rfl, hn2, hf2⟩))
    go_ret
    exact ⟨by simp, hb1.trans (hf2.low hb1.size)⟩
  have h0' : ((n : Int) == 0) = false := by simp; omega
  by_cases h3 : 300 < n
  · clear hnl
    go_enter Try.func3, Try.ntmps3
    go_wp2_with (first
      | (go_at_call 7; refine Q7.out.mono ?_; rintro e w1 ⟨rfl, hb1⟩)
      | (go_at_call 8; refine (Q8.out _ hb1).mono ?_; rintro e w2 ⟨p, rfl, hn2, hf2⟩))
    go_ret
    exact ⟨by simp, hb1.trans (hf2.low hb1.size)⟩
  obtain ⟨j, hj, hjn⟩ : ∃ j : Nat, x.tmod (n : Int) = (j : Int) ∧ j < n := by
    obtain ⟨x', rfl⟩ := Int.eq_ofNat_of_zero_le hx.1
    exact ⟨x' % n, by rw [Int.ofNat_tmod], Nat.mod_lt _ (by omega)⟩
  have hjl : j < ms.length := by omega
  obtain ⟨m, hm⟩ : ∃ m, ms[j]? = some m := ⟨_, List.getElem?_eq_getElem hjl⟩
  have e1 : dupE ms (j : Int) = 0 := by unfold dupE atOf; rw [if_neg (by omega), Int.toNat_natCast, hm]; simp only [sendE]; rw [if_pos (by omega)]
  have e2 : dupL ms (j : Int) = ms ++ [m] := by unfold dupL atOf; rw [if_neg (by omega), Int.toNat_natCast, hm]; simp only [sendL]; rw [if_pos (by omega)]
  have e3 : atOf (ms ++ [m]) (n : Int) = some m := by unfold atOf; rw [if_neg (by omega), Int.toNat_natCast, hnl, List.getElem?_append_right (Nat.le_refl _), Nat.sub_self]; rfl
  have e4 : takeL (ms ++ [m]) (n : Int) = ms := by unfold takeL; rw [e3]; simp only [Int.toNat_natCast]; rw [hnl, List.eraseIdx_append_of_length_le (Nat.le_refl _), Nat.sub_self]; simp
  have e5 : atOf ms (j : Int) = some m := by unfold atOf; rw [if_neg (by omega), Int.toNat_natCast, hm]
  have e6 : takeL ms (j : Int) = ms.eraseIdx j := by unfold takeL; rw [e5]; simp only [Int.toNat_natCast]
  have e7 : (ms.eraseIdx j).length = n - 1 := by rw [List.length_eraseIdx, if_pos hjl, hnl]
  have HNL := Lib.hid hnl
  clear hnl
  go_enter Try.func3, Try.ntmps3
  go_wp2_with (first
    | (go_at_call 7; refine Q7.out.mono ?_; rintro e w1 ⟨rfl, hb1⟩)
    | (go_at_call 8; refine (Q8.out _ hb1).mono ?_; rintro e w2 ⟨p, rfl, hn2, hf2⟩))
  have hb2 := Lib.hid (hb1.trans (hf2.low hb1.size))
  have HN2 := Lib.hid hn2
  clear hn2 hf2 hb1
  go_loopw [7] (fun s wr => ∃ k : Nat, k ≤ n ∧ s = .int .i64 k ∧ NetIn w.heap.size None wr p (ms.take k) ∧ Below w.heap.size w wr) (fun s _ => n - (intOf s).toNat)
  case atStart => exact ⟨0, by omega, rfl, HN2.out, hb2.out⟩
  case round =>
    obtain ⟨k, hk, rfl, hnet, hb⟩ := hrel
    by_cases hkn : k < n
    · obtain ⟨b, o, B, q, d, mk, rfl, hck, hmk, hbk, hq, _⟩ := (HL.out.below hb).at_ hkn
      have hlt : (ms.take k).length < 400 := by have := HNL.out; rw [List.length_take]; omega
      have QS := Lib.hid (send_in w.heap.size p None (ms.take k) wr hnet (by omega) d hbk hq)
      have hsl : sendL (ms.take k) mk = ms.take (k + 1) := by unfold sendL; rw [if_pos hlt, List.take_add_one, hmk]; rfl
      have hse : sendE (ms.take k) = 0 := by unfold sendE; rw [if_pos hlt]
      rw [hsl, hse] at QS
      clear hnet hbk hsl hse
      go_wp2_with (go_at_call 9; refine QS.out.mono ?_; rintro e w3 ⟨rfl, hn3, hf3⟩)
      go_roundw
      case rel => exact ⟨k + 1, by omega, by go_num, hn3, hb.trans (hf3.low hb.size)⟩
      case measure => simp [intOf]; omega
    · obtain rfl : k = n := by omega
      rw [HNL.out, List.take_length] at hnet
      have hml : ms.length ≤ 400 := by have := HNL.out; omega
      have hml2 : (ms ++ [m]).length ≤ 400 := by have := HNL.out; simp; omega
      have QD := Lib.hid (dup_in w.heap.size p None ms wr hnet hml (j : Int))
      rw [e1, e2] at QD
      clear hnet
      obtain ⟨b, o, B, q, d, mk, rfl, hck, hmk, hbk, hq, hbw⟩ := HL.out.at_ hjn
      rw [hm] at hmk
      obtain rfl := Option.some.inj hmk
      go_wp2_with (first
        | (go_at_call 10; refine QD.out.mono ?_; rintro e w3 ⟨rfl, hn3, hf3⟩; have QT := take_in _ p _ _ _ hn3 hml2 (k : Int); rw [e3, e4] at QT; have QT := Lib.hid QT)
        | (go_at_call 11; refine QT2.out.mono ?_; rintro e w5 ⟨A5, n5, c5, Y5, rfl, hbs5, _, hn5, hf5⟩)
        | (go_at_call 11; refine QT.out.mono ?_; rintro e w4 ⟨A4, n4, c4, Y4, rfl, hbs4, _, hn4, hf4⟩; have QT2 := take_in _ p _ _ _ hn4 hml (j : Int); rw [e5, e6] at QT2; have QT2 := Lib.hid QT2))
      have hbt : Below w.heap.size wr w5 := ((hf3.turns (hf4.turns hf5 fun _ h => .inl h) fun _ h => h)).low hb.size
      have hck5 : w5.cell? ⟨b, o + j, none⟩ = some (.slice B q d) := ((hb.trans hbt).cell (p := ⟨b, o + j, none⟩) hbw).trans hck
      have hcvB : ∀ N, (convert 28 9 (.slice B q d)).run Try.prog (w5.drewN N) = .ok (.string (str m)) (w5.drewN N) := fun N => conv_str (R := fun k => k < w.heap.size) (Cells.frame hbk ((Frame.of_below_at (hb.trans hbt)).drewN N) fun k hk hc => by omega) d
      have hcv4 : ∀ N, (convert 28 9 (.slice A4 n4 c4)).run Try.prog (w5.drewN N) = .ok (.string (str m)) (w5.drewN N) := fun N => conv_str (R := Y4) (Cells.turns hbs4 (hf5.drewN N) fun k hk => .inl (.inr hk)) c4
      have hcv5 : ∀ N, (convert 28 9 (.slice A5 n5 c5)).run Try.prog (w5.drewN N) = .ok (.string (str m)) (w5.drewN N) := fun N => conv_str (R := Y5) (Cells.drewN hbs5 N) c5
      have hle : ((ms.eraseIdx j).length : Int) = (k : Int) - 1 := by omega
      have Q12 : Hid (∀ N, Calls Try.prog 12 #[.pointer (some ⟨p, 0, none⟩)] (w5.drewN N) fun e w'' => e = .returned (.int .i64 ((k : Int) - 1)) ∧ ∃ m, w'' = w5.drewN m) := Lib.hid fun N => (len_in w.heap.size p _ _ (w5.drewN N) (hn5.drewN N)).mono fun e w' h => ⟨by rw [← hle]; exact h.1, N, h.2.symm⟩
      have HF := Lib.hid (hb.trans hbt)
      clear hbk hf3 hf4 hf5 hbs4 hbs5 hn3 hn4 hn5 hbt hmk
      go_wp2_with fail
      go_quiet ((go_at_call 12; exact Q12.out _))
      all_goals go_wp2
      all_goals go_ret
      all_goals exact ⟨by simp, HF.out.os, HF.out.tape, HF.out.output, HF.out.size, HF.out.block⟩
end Go.Proofs.Ytddcfgbembjbhaa
