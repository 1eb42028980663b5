/- NetOrder, walked. -/
import Derived.Test.YtddcfgbembjbhaaWNetDoubles
namespace Go.Proofs.Ytddcfgbembjbhaa
open Go.RowKit
set_option linter.unusedVariables false

theorem take_len400 (ms : List (List UInt8)) (k : Nat) : (ms.take (min k 400)).length ≤ 400 := by rw [List.length_take]; omega
set_option maxRecDepth 100000 in
set_option maxHeartbeats 4000000 in
theorem walkNetOrder (w : World) (A : Option Addr) (n c : Nat) (ms : List (List UInt8)) (hl : Lists w (fun k => k < w.heap.size) A n ms) (hc : n ≤ c) :
    Calls Try.prog 6 #[.slice A n c] w fun e w' => e = .returned (.bool true) ∧ Below w.heap.size w w' := by
  have Q7 := Lib.hid (head w)
  have Q8 := Lib.hid (fun (w1 : World) (hb : Below w.heap.size w w1) => new_in w.heap.size w1 hb.size)
  have HL := Lib.hid hl
  have HNL : Hid (n = ms.length) := Lib.hid (by
    obtain ⟨_, _, h, _⟩ := hl
    exact h)
  clear hl
  by_cases h3 : 1000 < n
  · go_enter Try.func6, Try.ntmps6
    go_wp2_with (first
      | (go_at_call 7; refine Q7.out.mono ?_; rintro e w1 ⟨rfl, hb1⟩)
      | (go_at_call 8; refine (Q8.out _ hb1).mono ?_; rintro e w2 ⟨p, rfl, hn2, hf2⟩))
    go_ret
    exact ⟨by simp, hb1.trans (hf2.low hb1.size)⟩
  go_enter Try.func6, Try.ntmps6
  go_wp2_with (first
    | (go_at_call 7; refine Q7.out.mono ?_; rintro e w1 ⟨rfl, hb1⟩)
    | (go_at_call 8; refine (Q8.out _ hb1).mono ?_; rintro e w2 ⟨p, rfl, hn2, hf2⟩))
  have hb2 := Lib.hid (hb1.trans (hf2.low hb1.size))
  have HN2 := Lib.hid hn2
  clear hn2 hf2 hb1
  go_loopw [5] (fun s wr => ∃ k : Nat, k ≤ n ∧ s = .int .i64 k ∧ NetIn w.heap.size None wr p (ms.take (min k 400)) ∧ Below w.heap.size w wr) (fun s _ => n - (intOf s).toNat)
  case atStart => exact ⟨0, by omega, rfl, HN2.out, hb2.out⟩
  case round =>
    obtain ⟨k, hk, rfl, hnet, hb⟩ := hrel
    by_cases hkn : k < n
    · obtain ⟨b, o, B, q, d, mk, rfl, hck, hmk, hbk, hq, _⟩ := (HL.out.below hb).at_ hkn
      have hle := take_len400 ms k
      have QS := Lib.hid (send_in w.heap.size p None (ms.take (min k 400)) wr hnet hle d hbk hq)
      by_cases h4 : k < 400
      · have hlt : (ms.take (min k 400)).length < 400 := by rw [List.length_take]; omega
        have hsl : sendL (ms.take (min k 400)) mk = ms.take (min (k + 1) 400) := by unfold sendL; rw [if_pos hlt, show min (k + 1) 400 = k + 1 by omega, show min k 400 = k by omega, List.take_add_one, hmk]; rfl
        have hse : sendE (ms.take (min k 400)) = 0 := by unfold sendE; rw [if_pos hlt]
        have hd : decide ((k : Int) < 400) = true := by simp; omega
        rw [hsl, hse] at QS
        clear hnet hbk hsl hse hlt hle
        go_wp2_with (go_at_call 9; refine QS.out.mono ?_; rintro e w3 ⟨rfl, hn3, hf3⟩)
        go_roundw
        case rel => exact ⟨k + 1, by omega, by go_num, hn3, hb.trans (hf3.low hb.size)⟩
        case measure => simp [intOf]; omega
      · have hlt : ¬ (ms.take (min k 400)).length < 400 := by have := HNL.out; rw [List.length_take]; omega
        have hsl : sendL (ms.take (min k 400)) mk = ms.take (min (k + 1) 400) := by unfold sendL; rw [if_neg hlt, show min (k + 1) 400 = 400 by omega, show min k 400 = 400 by omega]
        have hse : sendE (ms.take (min k 400)) = 71 := by unfold sendE; rw [if_neg hlt]
        have hd : decide ((k : Int) < 400) = false := by simp; omega
        rw [hsl, hse] at QS
        clear hnet hbk hsl hse hlt hle
        go_wp2_with (go_at_call 9; refine QS.out.mono ?_; rintro e w3 ⟨rfl, hn3, hf3⟩)
        go_roundw
        case rel => exact ⟨k + 1, by omega, by go_num, hn3, hb.trans (hf3.low hb.size)⟩
        case measure => simp [intOf]; omega
    · obtain rfl : k = n := by omega
      have HN := Lib.hid hnet
      have HB := Lib.hid hb
      clear hnet hb HN2 hb2
      go_wp2
      go_loopw [7] (fun s wr => ∃ t : Nat, t ≤ min k 400 ∧ s = .int .i64 t ∧ NetIn w.heap.size None wr p ((ms.take (min k 400)).drop t) ∧ Below w.heap.size w wr) (fun s _ => k - (intOf s).toNat)
      case atStart => exact ⟨0, by omega, rfl, HN.out, HB.out⟩
      case round =>
        obtain ⟨t, ht, rfl, hnet, hb⟩ := hrel
        have hle : ((ms.take (min k 400)).drop t).length ≤ 400 := by rw [List.length_drop]; have := take_len400 ms k; omega
        by_cases htn : t < min k 400
        · have h1 : decide ((t : Int) < 400) = true := by simp; omega
          have htk : t < k := by omega
          obtain ⟨b, o, B, q, d, mk, rfl, hck, hmk, hbk, hq, hbw⟩ := HL.out.at_ htk
          have hdr : (ms.take (min k 400)).drop t = mk :: (ms.take (min k 400)).drop (t + 1) := by
            have hlt : t < (ms.take (min k 400)).length := by have := HNL.out; rw [List.length_take]; omega
            rw [List.drop_eq_getElem_cons hlt, List.getElem_take]
            rw [List.getElem?_eq_getElem (by have := HNL.out; omega)] at hmk
            rw [Option.some.inj hmk]
          have ha : atOf ((ms.take (min k 400)).drop t) 0 = some mk := by rw [hdr]; rfl
          have hta : takeL ((ms.take (min k 400)).drop t) 0 = (ms.take (min k 400)).drop (t + 1) := by unfold takeL; rw [ha, hdr]; rfl
          have QT := take_in w.heap.size p None _ wr hnet hle 0
          rw [ha, hta] at QT
          have QT := Lib.hid QT
          clear hnet hle hdr ha hta hmk
          go_wp2_with (go_at_call 11; refine QT.out.mono ?_; rintro e w5 ⟨A5, n5, c5, Y5, rfl, hbs5, _, hn5, hf5⟩)
          have hbt : Below w.heap.size wr w5 := hf5.low hb.size
          have hck5 : w5.cell? ⟨b, o + t, none⟩ = some (.slice B q d) := ((hb.trans hbt).cell (p := ⟨b, o + t, none⟩) hbw).trans hck
          have hcvB : ∀ N, (convert 28 9 (.slice B q d)).run Try.prog (w5.drewN N) = .ok (.string (str mk)) (w5.drewN N) := fun N => conv_str (R := fun k => k < w.heap.size) (Cells.frame hbk ((Frame.of_below_at (hb.trans hbt)).drewN N) fun k hk hc => by omega) d
          have hcv5 : ∀ N, (convert 28 9 (.slice A5 n5 c5)).run Try.prog (w5.drewN N) = .ok (.string (str mk)) (w5.drewN N) := fun N => conv_str (R := Y5) (Cells.drewN hbs5 N) c5
          have HF := Lib.hid (hb.trans hbt)
          have HN5 := Lib.hid hn5
          clear hbk hf5 hbs5 hn5 hbt hb
          go_quiet (fail)
          go_wp2
          go_roundw
          case rel => exact ⟨t + 1, by omega, by go_num, (HN5.out.mono fun _ h => h.elim).drewN _, HF.out.os, HF.out.tape, HF.out.output, HF.out.size, HF.out.block⟩
          case measure => simp [intOf]; omega
        · obtain rfl : t = min k 400 := by omega
          have hnil : (ms.take (min k 400)).drop (min k 400) = [] := by rw [List.drop_eq_nil_iff, List.length_take]; omega
          rw [hnil] at hnet
          have QT := Lib.hid (show Calls _ _ _ _ (Gives _ _ p none [] _) from take_in w.heap.size p None _ wr hnet (by simp) 0)
          have hex : min k 400 < k → ¬ min k 400 < 400 := by omega
          have HB2 := Lib.hid hb
          clear hnet hle hnil
          generalize hT : min k 400 = T at *
          clear hT hb
          have QL := Lib.hid (fun (w1 : World) (Y : Nat → Prop) (h : NetIn w.heap.size Y w1 p []) => (show Calls Try.prog 12 #[.pointer (some ⟨p, 0, none⟩)] w1 (fun e w' => e = .returned (.int .i64 0) ∧ w1 = w') from len_in w.heap.size p Y [] w1 h))
          have QD := Lib.hid (fun (w1 : World) (Y : Nat → Prop) (h : NetIn w.heap.size Y w1 p []) => (show Calls _ _ _ _ (Gave _ _ p (.bool false) [] _) from drop_in w.heap.size p Y [] w1 h (by simp) 0))
          by_cases hdk : T < k
          rotate_left
          · clear hex
            go_wp2_with (first
              | (go_at_call 11; refine QT.out.mono ?_; rintro e w5 ⟨A5, n5, c5, Y5, rfl, hbs5, _, hn5, hf5⟩)
              | (go_at_call 12; refine (QL.out _ _ hn5).mono ?_; rintro e w6 ⟨rfl, rfl⟩)
              | (go_at_call 15; refine (QD.out _ _ hn5).mono ?_; rintro e w7 ⟨rfl, hn7, hf7⟩))
            go_ret
            exact ⟨by simp, HB2.out.trans ((hf5.turns hf7 fun _ h => .inl h).low HB2.out.size)⟩
          · have hd4 := hex hdk
            clear hex
            go_wp2_with (first
              | (go_at_call 11; refine QT.out.mono ?_; rintro e w5 ⟨A5, n5, c5, Y5, rfl, hbs5, _, hn5, hf5⟩)
              | (go_at_call 12; refine (QL.out _ _ hn5).mono ?_; rintro e w6 ⟨rfl, rfl⟩)
              | (go_at_call 15; refine (QD.out _ _ hn5).mono ?_; rintro e w7 ⟨rfl, hn7, hf7⟩))
            go_ret
            exact ⟨by simp, HB2.out.trans ((hf5.turns hf7 fun _ h => .inl h).low HB2.out.size)⟩
end Go.Proofs.Ytddcfgbembjbhaa
