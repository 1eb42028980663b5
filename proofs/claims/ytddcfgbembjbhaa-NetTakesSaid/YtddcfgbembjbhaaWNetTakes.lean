/- NetTakes, walked. -/
import Derived.Test.YtddcfgbembjbhaaOps
namespace Go.Proofs.Ytddcfgbembjbhaa
open Go.RowKit
set_option linter.unusedVariables false
theorem atOf_lt {ms : List (List UInt8)} {i : Int} {m : List UInt8} (h : atOf ms i = some m) : i.toNat < ms.length := by
  unfold atOf at h
  split at h
  · cases h
  · exact (List.getElem?_eq_some_iff.1 h).1
set_option maxRecDepth 100000 in
set_option maxHeartbeats 1600000 in
theorem walkNetTakes (w : World) (A : Option Addr) (n c : Nat) (l : List OpV) (hl : Ops w (fun k => k < w.heap.size) A n l) (hc : n ≤ c) :
    Calls Try.prog 5 #[.slice A n c] w fun e w' => e = .returned (.bool true) ∧ Below w.heap.size w w' := by
  have Q7 := Lib.hid (head w)
  have Q8 := Lib.hid (fun (w1 : World) (hb : Below w.heap.size w w1) => new_in w.heap.size w1 hb.size)
  have HL := Lib.hid hl
  clear hl
  by_cases h3 : 2000 < n
  · go_enter Try.func5, Try.ntmps5
    go_wp2_with (first
      | (go_at_call 7; refine Q7.out.mono ?_; rintro e w1 ⟨rfl, hb1⟩)
      | (go_at_call 8; refine (Q8.out _ hb1).mono ?_; rintro e w2 ⟨p, rfl, hn2, hf2⟩))
    go_ret
    exact ⟨by simp, hb1.trans (hf2.low hb1.size)⟩
  go_enter Try.func5, Try.ntmps5
  go_wp2_with (first
    | (go_at_call 7; refine Q7.out.mono ?_; rintro e w1 ⟨rfl, hb1⟩)
    | (go_at_call 8; refine (Q8.out _ hb1).mono ?_; rintro e w2 ⟨p, rfl, hn2, hf2⟩))
  have hb2 := Lib.hid (hb1.trans (hf2.low hb1.size))
  have HN2 := Lib.hid hn2
  clear hn2 hf2 hb1
  go_loopw [5, 6] (fun s x wr => ∃ (k : Nat) (ms : List (List UInt8)), k ≤ n ∧ ms.length ≤ 400 ∧ s = .int .i64 (ms.length : Int) ∧ x = .int .i64 k ∧ NetIn w.heap.size None wr p ms ∧ Below w.heap.size w wr) (fun _ x _ => n - (intOf x).toNat)
  case atStart => exact ⟨0, [], by omega, by simp, rfl, rfl, HN2.out, hb2.out⟩
  case round =>
    obtain ⟨k, ms, hk, hms, rfl, rfl, hnet, hb⟩ := hrel
    by_cases hkn : k < n
    · obtain ⟨b, o, op, rfl, hop, B, q, d, hc0, hc1, hc2, hbk, hq⟩ := HL.out.at_ hb hkn
      have hba := hb.alloc hb.size (.cells #[.int .i64 op.what, .slice B q d, .int .i64 op.i] 39)
      have hnA := hnet.copy (.cells #[.int .i64 op.what, .slice B q d, .int .i64 op.i] 39) rfl
      have hcp : Copy (wr.alloc (.cells #[.int .i64 op.what, .slice B q d, .int .i64 op.i] 39)) wr.heap.size op B q d :=
        ⟨by rw [cell_of_row _ _ _ _ _ _ (heap_alloc_new wr _)]; rfl, by rw [cell_of_row _ _ _ _ _ _ (heap_alloc_new wr _)]; rfl, by rw [cell_of_row _ _ _ _ _ _ (heap_alloc_new wr _)]; rfl, by simp⟩
      have hbka := Cells.later hbk ((Below.refl wr.heap.size wr).alloc (Nat.le_refl _) (.cells #[.int .i64 op.what, .slice B q d, .int .i64 op.i] 39))
      have QA := at_in w.heap.size p _ ms _ hnA op.i
      have HBA := Lib.hid hba
      clear hnet hbk hba
      rcases what4 op.what with hs | hs | hs | hs
      · by_cases hlt : ms.length < 400
        · by_cases hlt1 : ms.length + 1 < 400
          · have hd : decide ((ms.length : Int) + 1 < 400) = true := by simp; omega
            have QA := Lib.hid QA
            have e1 : sendE ms = 0 := by unfold sendE; rw [if_pos hlt]
            have e2 : sendL ms op.b = ms ++ [op.b] := by unfold sendL; rw [if_pos hlt]
            have e3 : ((ms ++ [op.b]).length : Int) = (ms.length : Int) + 1 := by simp
            have e4 : (ms ++ [op.b]).length ≤ 400 := by simp; omega
            have e5 : (ms.length : Int) + 1 ≤ 400 := by omega
            have e6 : atOf (ms ++ [op.b]) (ms.length : Int) = some op.b := by unfold atOf; rw [if_neg (by omega), Int.toNat_natCast, List.getElem?_append_right (Nat.le_refl _), Nat.sub_self]; rfl
            have hz : ((ms.length : Int) + 1 == 0) = false := by simp; omega
            go_wp2_with (first
              | (go_at_call 17; have QT := at_in w.heap.size p _ (ms ++ [op.b]) _ hnS (ms.length : Int); rw [e6] at QT; refine QT.mono ?_; rintro e w3 ⟨A3, n3, c3, Y3, rfl, hbs3, _, hnF, hf3⟩; have hcp3 := hcp2.turns hf3 (.inl rfl); obtain ⟨hq0, hq1, hq2, _⟩ := id hcp3; have hbk3 := Cells.turns hbk2 hf3 (fun k hk => .inr hk); have hv3 := conv_str hbs3 c3; have hvB := conv_str hbk3 d)
              | (go_at_call 17; have QAo := QA.out; clear QA; refine QAo.mono ?_; clear QAo; rintro e w1 ⟨A1, n1, c1, Y1, rfl, hbs1, _, hn1, hf1⟩; have hcp1 := hcp.turns hf1 rfl; obtain ⟨ha0, ha1, ha2, _⟩ := id hcp1; have hbk1 := Cells.turns hbka hf1 (fun k hk => .inr hk))
              | (go_at_call 9; have QS := send_in w.heap.size p _ ms _ hn1 hms d hbk1 hq; rw [e1, e2] at QS; refine QS.mono ?_; rintro e w2 ⟨rfl, hnS, hf2⟩; have hcp2 := hcp1.turns hf2 (.inl rfl); have hbk2 := Cells.turns hbk1 hf2 (fun k hk => .inr hk))
              | (go_at_call 12; have QL := len_in w.heap.size p _ _ _ hnF; rw [e3] at QL; refine QL.mono ?_; rintro e w9 ⟨rfl, rfl⟩)
              | (go_at_call 12; have QL := len_in w.heap.size p _ _ _ hnS; rw [e3] at QL; refine QL.mono ?_; rintro e w9 ⟨rfl, rfl⟩))
            go_roundw
            case rel => exact ⟨k + 1, (ms ++ [op.b]), by omega, e4, by rw [e3], by go_num, hnF.mono fun _ h => h.elim, HBA.out.trans ((hf1.turns (hf2.turns hf3 fun _ h => h) fun _ h => .inl h).low HBA.out.size)⟩
            case measure => simp [intOf]; omega

          · have hd : decide ((ms.length : Int) + 1 < 400) = false := by simp; omega
            have QA := Lib.hid QA
            have e1 : sendE ms = 0 := by unfold sendE; rw [if_pos hlt]
            have e2 : sendL ms op.b = ms ++ [op.b] := by unfold sendL; rw [if_pos hlt]
            have e3 : ((ms ++ [op.b]).length : Int) = (ms.length : Int) + 1 := by simp
            have e4 : (ms ++ [op.b]).length ≤ 400 := by simp; omega
            have e5 : (ms.length : Int) + 1 ≤ 400 := by omega
            have e6 : atOf (ms ++ [op.b]) (ms.length : Int) = some op.b := by unfold atOf; rw [if_neg (by omega), Int.toNat_natCast, List.getElem?_append_right (Nat.le_refl _), Nat.sub_self]; rfl
            have hz : ((ms.length : Int) + 1 == 0) = false := by simp; omega
            go_wp2_with (first
              | (go_at_call 17; have QT := at_in w.heap.size p _ (ms ++ [op.b]) _ hnS (ms.length : Int); rw [e6] at QT; refine QT.mono ?_; rintro e w3 ⟨A3, n3, c3, Y3, rfl, hbs3, _, hnF, hf3⟩; have hcp3 := hcp2.turns hf3 (.inl rfl); obtain ⟨hq0, hq1, hq2, _⟩ := id hcp3; have hbk3 := Cells.turns hbk2 hf3 (fun k hk => .inr hk); have hv3 := conv_str hbs3 c3; have hvB := conv_str hbk3 d)
              | (go_at_call 17; have QAo := QA.out; clear QA; refine QAo.mono ?_; clear QAo; rintro e w1 ⟨A1, n1, c1, Y1, rfl, hbs1, _, hn1, hf1⟩; have hcp1 := hcp.turns hf1 rfl; obtain ⟨ha0, ha1, ha2, _⟩ := id hcp1; have hbk1 := Cells.turns hbka hf1 (fun k hk => .inr hk))
              | (go_at_call 9; have QS := send_in w.heap.size p _ ms _ hn1 hms d hbk1 hq; rw [e1, e2] at QS; refine QS.mono ?_; rintro e w2 ⟨rfl, hnS, hf2⟩; have hcp2 := hcp1.turns hf2 (.inl rfl); have hbk2 := Cells.turns hbk1 hf2 (fun k hk => .inr hk))
              | (go_at_call 12; have QL := len_in w.heap.size p _ _ _ hnF; rw [e3] at QL; refine QL.mono ?_; rintro e w9 ⟨rfl, rfl⟩)
              | (go_at_call 12; have QL := len_in w.heap.size p _ _ _ hnS; rw [e3] at QL; refine QL.mono ?_; rintro e w9 ⟨rfl, rfl⟩))
            go_roundw
            case rel => exact ⟨k + 1, (ms ++ [op.b]), by omega, e4, by rw [e3], by go_num, hnF.mono fun _ h => h.elim, HBA.out.trans ((hf1.turns (hf2.turns hf3 fun _ h => h) fun _ h => .inl h).low HBA.out.size)⟩
            case measure => simp [intOf]; omega

        · have hd : decide ((ms.length : Int) < 400) = false := by simp; omega
          have QA := Lib.hid QA
          have e1 : sendE ms = 71 := by unfold sendE; rw [if_neg hlt]
          have e2 : sendL ms op.b = ms := by unfold sendL; rw [if_neg hlt]
          have hz : ((ms.length : Int) == 0) = false := by rw [beq_eq_false_iff_ne]; omega
          go_wp2_with (first
            | (go_at_call 17; have QT := at_in w.heap.size p _ ms _ hnS ((ms.length : Int) - 1); refine QT.mono ?_; rintro e w3 ⟨A3, n3, c3, Y3, rfl, hbs3, _, hnF, hf3⟩; have hcp3 := hcp2.turns hf3 (.inl rfl); obtain ⟨hq0, hq1, hq2, _⟩ := id hcp3; have hbk3 := Cells.turns hbk2 hf3 (fun k hk => .inr hk); have hv3 := conv_str hbs3 c3; have hvB := conv_str hbk3 d)
            | (go_at_call 17; have QAo := QA.out; clear QA; refine QAo.mono ?_; clear QAo; rintro e w1 ⟨A1, n1, c1, Y1, rfl, hbs1, _, hn1, hf1⟩; have hcp1 := hcp.turns hf1 rfl; obtain ⟨ha0, ha1, ha2, _⟩ := id hcp1; have hbk1 := Cells.turns hbka hf1 (fun k hk => .inr hk))
            | (go_at_call 9; have QS := send_in w.heap.size p _ ms _ hn1 hms d hbk1 hq; rw [e1, e2] at QS; refine QS.mono ?_; rintro e w2 ⟨rfl, hnS, hf2⟩; have hcp2 := hcp1.turns hf2 (.inl rfl); have hbk2 := Cells.turns hbk1 hf2 (fun k hk => .inr hk))
            | (go_at_call 12; have QL := len_in w.heap.size p _ _ _ hnF; refine QL.mono ?_; rintro e w9 ⟨rfl, rfl⟩)
            | (go_at_call 12; have QL := len_in w.heap.size p _ _ _ hnS; refine QL.mono ?_; rintro e w9 ⟨rfl, rfl⟩))
          go_roundw
          case rel => exact ⟨k + 1, ms, by omega, hms, rfl, by go_num, hnF.mono fun _ h => h.elim, HBA.out.trans ((hf1.turns (hf2.turns hf3 fun _ h => h) fun _ h => .inl h).low HBA.out.size)⟩
          case measure => simp [intOf]; omega
      · rcases hat : atOf ms op.i with _ | m
        · rw [hat] at QA
          have QA := Lib.hid QA
          have e1 : takeL ms op.i = ms := by unfold takeL; rw [hat]
          go_wp2_with (first
            | (go_at_call 17; have QAo := QA.out; clear QA; refine QAo.mono ?_; clear QAo; rintro e w1 ⟨A1, n1, c1, Y1, rfl, hbs1, _, hn1, hf1⟩; have hcp1 := hcp.turns hf1 rfl; obtain ⟨ha0, ha1, ha2, _⟩ := id hcp1; have hbk1 := Cells.turns hbka hf1 (fun k hk => .inr hk))
            | (go_at_call 11; have QT := take_in w.heap.size p _ ms _ hn1 hms op.i; rw [hat, e1] at QT; refine QT.mono ?_; rintro e w2 ⟨A2, n2, c2, Y2, rfl, hbs2, _, hnF, hf2⟩; have hv1 := conv_str (Cells.turns hbs1 hf2 fun k hk => .inl (.inr hk)) c1; have hv2 := conv_str hbs2 c2)
            | (go_at_call 12; refine (len_in w.heap.size p _ _ _ hnF).mono ?_; rintro e w9 ⟨rfl, rfl⟩))
          go_roundw
          case rel => exact ⟨k + 1, ms, by omega, hms, rfl, by go_num, hnF.mono fun _ h => h.elim, HBA.out.trans ((hf1.turns hf2 fun _ h => .inl h).low HBA.out.size)⟩
          case measure => simp [intOf]; omega
        · rw [hat] at QA
          have QA := Lib.hid QA
          have e1 : takeL ms op.i = ms.eraseIdx op.i.toNat := by unfold takeL; rw [hat]
          have hil : op.i.toNat < ms.length := atOf_lt hat
          have e2 : ((ms.eraseIdx op.i.toNat).length : Int) = (ms.length : Int) - 1 := by rw [List.length_eraseIdx, if_pos hil]; omega
          have e3 : (ms.eraseIdx op.i.toNat).length ≤ 400 := by omega
          go_wp2_with (first
            | (go_at_call 17; have QAo := QA.out; clear QA; refine QAo.mono ?_; clear QAo; rintro e w1 ⟨A1, n1, c1, Y1, rfl, hbs1, _, hn1, hf1⟩; have hcp1 := hcp.turns hf1 rfl; obtain ⟨ha0, ha1, ha2, _⟩ := id hcp1; have hbk1 := Cells.turns hbka hf1 (fun k hk => .inr hk))
            | (go_at_call 11; have QT := take_in w.heap.size p _ ms _ hn1 hms op.i; rw [hat, e1] at QT; refine QT.mono ?_; rintro e w2 ⟨A2, n2, c2, Y2, rfl, hbs2, _, hnF, hf2⟩; have hv1 := conv_str (Cells.turns hbs1 hf2 fun k hk => .inl (.inr hk)) c1; have hv2 := conv_str hbs2 c2)
            | (go_at_call 12; refine (len_in w.heap.size p _ _ _ hnF).mono ?_; rintro e w9 ⟨rfl, rfl⟩))
          go_roundw
          case rel => exact ⟨k + 1, ms.eraseIdx op.i.toNat, by omega, e3, by rw [e2], by go_num, hnF.mono fun _ h => h.elim, HBA.out.trans ((hf1.turns hf2 fun _ h => .inl h).low HBA.out.size)⟩
          case measure => simp [intOf]; omega
      · rcases hat : atOf ms op.i with _ | m
        · rw [hat] at QA
          have QA := Lib.hid QA
          have e1 : takeL ms op.i = ms := by unfold takeL; rw [hat]
          go_wp2_with (first
            | (go_at_call 17; have QAo := QA.out; clear QA; refine QAo.mono ?_; clear QAo; rintro e w1 ⟨A1, n1, c1, Y1, rfl, hbs1, _, hn1, hf1⟩; have hcp1 := hcp.turns hf1 rfl; obtain ⟨ha0, ha1, ha2, _⟩ := id hcp1; have hbk1 := Cells.turns hbka hf1 (fun k hk => .inr hk))
            | (go_at_call 15; have QT := drop_in w.heap.size p _ ms _ hn1 hms op.i; rw [hat, e1] at QT; refine QT.mono ?_; rintro e w2 ⟨rfl, hnF, hf2⟩)
            | (go_at_call 12; refine (len_in w.heap.size p _ _ _ hnF).mono ?_; rintro e w9 ⟨rfl, rfl⟩))
          go_roundw
          case rel => exact ⟨k + 1, ms, by omega, hms, rfl, by go_num, hnF.mono fun _ h => h.elim, HBA.out.trans ((hf1.turns hf2 fun _ h => .inl h).low HBA.out.size)⟩
          case measure => simp [intOf]; omega
        · rw [hat] at QA
          have QA := Lib.hid QA
          have e1 : takeL ms op.i = ms.eraseIdx op.i.toNat := by unfold takeL; rw [hat]
          have hil : op.i.toNat < ms.length := atOf_lt hat
          have e2 : ((ms.eraseIdx op.i.toNat).length : Int) = (ms.length : Int) - 1 := by rw [List.length_eraseIdx, if_pos hil]; omega
          have e3 : (ms.eraseIdx op.i.toNat).length ≤ 400 := by omega
          go_wp2_with (first
            | (go_at_call 17; have QAo := QA.out; clear QA; refine QAo.mono ?_; clear QAo; rintro e w1 ⟨A1, n1, c1, Y1, rfl, hbs1, _, hn1, hf1⟩; have hcp1 := hcp.turns hf1 rfl; obtain ⟨ha0, ha1, ha2, _⟩ := id hcp1; have hbk1 := Cells.turns hbka hf1 (fun k hk => .inr hk))
            | (go_at_call 15; have QT := drop_in w.heap.size p _ ms _ hn1 hms op.i; rw [hat, e1] at QT; refine QT.mono ?_; rintro e w2 ⟨rfl, hnF, hf2⟩)
            | (go_at_call 12; refine (len_in w.heap.size p _ _ _ hnF).mono ?_; rintro e w9 ⟨rfl, rfl⟩))
          go_roundw
          case rel => exact ⟨k + 1, ms.eraseIdx op.i.toNat, by omega, e3, by rw [e2], by go_num, hnF.mono fun _ h => h.elim, HBA.out.trans ((hf1.turns hf2 fun _ h => .inl h).low HBA.out.size)⟩
          case measure => simp [intOf]; omega
      · rcases hat : atOf ms op.i with _ | m
        · rw [hat] at QA
          have QA := Lib.hid QA
          have e1 : dupE ms op.i = 1 := by unfold dupE; rw [hat]
          have e2 : dupL ms op.i = ms := by unfold dupL; rw [hat]
          go_wp2_with (first
            | (go_at_call 17; have QAo := QA.out; clear QA; refine QAo.mono ?_; clear QAo; rintro e w1 ⟨A1, n1, c1, Y1, rfl, hbs1, _, hn1, hf1⟩; have hcp1 := hcp.turns hf1 rfl; obtain ⟨ha0, ha1, ha2, _⟩ := id hcp1; have hbk1 := Cells.turns hbka hf1 (fun k hk => .inr hk))
            | (go_at_call 10; have QT := dup_in w.heap.size p _ ms _ hn1 hms op.i; rw [e1, e2] at QT; refine QT.mono ?_; rintro e w2 ⟨rfl, hnF, hf2⟩)
            | (go_at_call 12; refine (len_in w.heap.size p _ _ _ hnF).mono ?_; rintro e w9 ⟨rfl, rfl⟩))
          go_roundw
          case rel => exact ⟨k + 1, ms, by omega, hms, rfl, by go_num, hnF.mono fun _ h => h.elim, HBA.out.trans ((hf1.turns hf2 fun _ h => .inl h).low HBA.out.size)⟩
          case measure => simp [intOf]; omega

        · rw [hat] at QA
          by_cases hlt : ms.length < 400
          · skip
            have QA := Lib.hid QA
            have e1 : dupE ms op.i = 0 := by unfold dupE; rw [hat]; simp only [sendE]; rw [if_pos hlt]
            have e2 : dupL ms op.i = (ms ++ [m]) := by unfold dupL; rw [hat]; simp only [sendL]; rw [if_pos hlt]
            have e3 : ((ms ++ [m]).length : Int) = (ms.length : Int) + 1 := by simp
            have e4 : (ms ++ [m]).length ≤ 400 := by simp; omega
            have e5 : (ms.length : Int) + 1 ≤ 400 := by omega
            go_wp2_with (first
              | (go_at_call 17; have QAo := QA.out; clear QA; refine QAo.mono ?_; clear QAo; rintro e w1 ⟨A1, n1, c1, Y1, rfl, hbs1, _, hn1, hf1⟩; have hcp1 := hcp.turns hf1 rfl; obtain ⟨ha0, ha1, ha2, _⟩ := id hcp1; have hbk1 := Cells.turns hbka hf1 (fun k hk => .inr hk))
              | (go_at_call 10; have QT := dup_in w.heap.size p _ ms _ hn1 hms op.i; rw [e1, e2] at QT; refine QT.mono ?_; rintro e w2 ⟨rfl, hnF, hf2⟩)
              | (go_at_call 12; refine (len_in w.heap.size p _ _ _ hnF).mono ?_; rintro e w9 ⟨rfl, rfl⟩))
            go_roundw
            case rel => exact ⟨k + 1, (ms ++ [m]), by omega, e4, by rw [e3], by go_num, hnF.mono fun _ h => h.elim, HBA.out.trans ((hf1.turns hf2 fun _ h => .inl h).low HBA.out.size)⟩
            case measure => simp [intOf]; omega

          · skip
            have QA := Lib.hid QA
            have e1 : dupE ms op.i = 71 := by unfold dupE; rw [hat]; simp only [sendE]; rw [if_neg hlt]
            have e2 : dupL ms op.i = ms := by unfold dupL; rw [hat]; simp only [sendL]; rw [if_neg hlt]
            go_wp2_with (first
              | (go_at_call 17; have QAo := QA.out; clear QA; refine QAo.mono ?_; clear QAo; rintro e w1 ⟨A1, n1, c1, Y1, rfl, hbs1, _, hn1, hf1⟩; have hcp1 := hcp.turns hf1 rfl; obtain ⟨ha0, ha1, ha2, _⟩ := id hcp1; have hbk1 := Cells.turns hbka hf1 (fun k hk => .inr hk))
              | (go_at_call 10; have QT := dup_in w.heap.size p _ ms _ hn1 hms op.i; rw [e1, e2] at QT; refine QT.mono ?_; rintro e w2 ⟨rfl, hnF, hf2⟩)
              | (go_at_call 12; refine (len_in w.heap.size p _ _ _ hnF).mono ?_; rintro e w9 ⟨rfl, rfl⟩))
            go_roundw
            case rel => exact ⟨k + 1, ms, by omega, hms, rfl, by go_num, hnF.mono fun _ h => h.elim, HBA.out.trans ((hf1.turns hf2 fun _ h => .inl h).low HBA.out.size)⟩
            case measure => simp [intOf]; omega

    · obtain rfl : k = n := by omega
      go_wp2
      go_ret
      exact ⟨by simp, hb⟩
end Go.Proofs.Ytddcfgbembjbhaa
