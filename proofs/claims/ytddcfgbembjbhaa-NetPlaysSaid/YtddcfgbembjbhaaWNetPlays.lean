/- NetPlays, walked. -/
import Derived.Test.YtddcfgbembjbhaaPair
namespace Go.Proofs.Ytddcfgbembjbhaa
open Go.RowKit
set_option linter.unusedVariables false
theorem all_u8 (l : List UInt8) : ∀ u ∈ l.map u8, ∃ z, u = .int .u8 z := by
  intro u hu
  obtain ⟨x, _, rfl⟩ := List.mem_map.1 hu
  exact ⟨_, rfl⟩
theorem set_u8 {xs : List Value} (h : ∀ u ∈ xs, ∃ z, u = .int .u8 z) (j : Nat) (z : Int) : ∀ u ∈ xs.set j (.int .u8 z), ∃ z, u = .int .u8 z := by
  intro u hu
  rcases List.mem_or_eq_of_mem_set hu with h1 | rfl
  · exact h u h1
  · exact ⟨z, rfl⟩
theorem Below.mono_ {b b' : Nat} {w w' : World} (h : Below b w w') (hb : b' ≤ b) : Below b' w w' := ⟨h.os, h.tape, h.output, h.size, fun k hk => h.block k (by omega)⟩
theorem Copy.later {w w' : World} {q : Nat} {op : OpV} {B : Option Addr} {k d : Nat} (h : Copy w q op B k d) (hb : Below w.heap.size w w') : Copy w' q op B k d :=
  ⟨(hb.cell (p := ⟨q, 0, none⟩) h.2.2.2).trans h.1, (hb.cell (p := ⟨q, 1, none⟩) h.2.2.2).trans h.2.1, (hb.cell (p := ⟨q, 2, none⟩) h.2.2.2).trans h.2.2.1, Nat.lt_of_lt_of_le h.2.2.2 hb.size⟩
theorem Copy.frame {E : Nat → Prop} {w w' : World} {q : Nat} {op : OpV} {B : Option Addr} {k d : Nat} (h : Copy w q op B k d) (hf : Frame E w w') (hn : ¬ E q) : Copy w' q op B k d :=
  ⟨(hf.cell (p := ⟨q, 0, none⟩) h.2.2.2 hn).trans h.1, (hf.cell (p := ⟨q, 1, none⟩) h.2.2.2 hn).trans h.2.1, (hf.cell (p := ⟨q, 2, none⟩) h.2.2.2 hn).trans h.2.2.1, Nat.lt_of_lt_of_le h.2.2.2 hf.size⟩
theorem sendL_len {ms : List (List UInt8)} (h : ms.length ≤ 400) (l : List UInt8) : (sendL ms l).length ≤ 400 := by
  unfold sendL
  split
  · simp; omega
  · exact h
theorem dupL_len {ms : List (List UInt8)} (h : ms.length ≤ 400) (i : Int) : (dupL ms i).length ≤ 400 := by
  unfold dupL
  split
  · exact h
  · exact sendL_len h _
theorem takeL_len {ms : List (List UInt8)} (h : ms.length ≤ 400) (i : Int) : (takeL ms i).length ≤ 400 := by
  unfold takeL
  split
  · exact h
  · have := List.length_eraseIdx_le (l := ms) (i := i.toNat)
    omega
theorem Pair.start {b p : Nat} {w : World} (h : NetAt w 44 (fun k => k = p) None p []) (hb : b ≤ p) : Pair 44 37 b None None (w.alloc (.cells #[.slice none 0 0] 37)) p w.heap.size [] [] := by
  have hp := h.bound p (.inl rfl)
  refine ⟨fun k => k = p, None, fun k => k = w.heap.size, None, h.later ((Below.refl _ _).alloc (Nat.le_refl _) _), fresh_net w 37 _ rfl, ?_, ?_, fun k hk => hk.elim, fun k hk => hk.elim⟩
  · rintro k ((hk | hk) | (hk | hk))
    · omega
    · exact hk.elim
    · omega
    · exact hk.elim
  · rintro k (hk | hk) (hc | hc)
    · omega
    · exact hc.elim
    · exact hk.elim
    · exact hk.elim
set_option maxRecDepth 100000 in
set_option maxHeartbeats 8000000 in
theorem walkNetPlays (w : World) (A : Option Addr) (n c : Nat) (l : List OpV) (hl : Ops w (fun k => k < w.heap.size) A n l) (hc : n ≤ c) :
    Calls Try.prog 4 #[.slice A n c] w fun e w' => e = .returned (.bool true) ∧ Below w.heap.size w w' := by
  have Q7 := Lib.hid (head w)
  have Q8 := Lib.hid (fun (w1 : World) => new_ w1)
  have HL := Lib.hid hl
  clear hl
  by_cases h3 : 2000 < n
  · go_enter Try.func4, Try.ntmps4
    go_wp2_with (first
      | (go_at_call 7; refine Q7.out.mono ?_; rintro e w1 ⟨rfl, hb1⟩)
      | (go_at_call 8; refine (Q8.out _).mono ?_; rintro e w2 ⟨p, rfl, hn2, hp2', hf2⟩; have hp2 := Lib.hid hp2'; clear hp2'))
    go_ret
    exact ⟨by simp, (hb1.trans (Below.mono_ hf2 hb1.size)).alloc (by have := hb1.size; have := hf2.size; omega) _⟩
  go_enter Try.func4, Try.ntmps4
  go_wp2_with (first
    | (go_at_call 7; refine Q7.out.mono ?_; rintro e w1 ⟨rfl, hb1⟩)
    | (go_at_call 8; refine (Q8.out _).mono ?_; rintro e w2 ⟨p, rfl, hn2, hp2', hf2⟩; have hp2 := Lib.hid hp2'; clear hp2'))
  have hb2 := Lib.hid ((hb1.trans (Below.mono_ hf2 hb1.size)).alloc (by have := hb1.size; have := hf2.size; omega) (.cells #[.slice none 0 0] 37))
  have HN2 := Lib.hid (Pair.start (b := w.heap.size) hn2 (by have := hb1.size; have := hp2.out; omega))
  obtain ⟨q, hq⟩ : ∃ q, q = w2.heap.size := ⟨_, rfl⟩
  rw [← hq] at HN2 ⊢
  generalize w2.alloc (.cells #[.slice none 0 0] 37) = w3 at *
  clear hn2 hf2 hb1 hq hp2
  go_loopw [6] (fun x wr => ∃ (k : Nat) (ms : List (List UInt8)), k ≤ n ∧ ms.length ≤ 400 ∧ x = .int .i64 k ∧ Pair 44 37 w.heap.size None None wr p q ms ms ∧ Below w.heap.size w wr) (fun x _ => n - (intOf x).toNat)
  case atStart => exact ⟨0, [], by omega, by simp, rfl, HN2.out, hb2.out⟩
  case round =>
    obtain ⟨k, ms, hk, hms, rfl, hnet, hb⟩ := hrel
    obtain ⟨wo, rfl⟩ : ∃ wo, wo = wr := ⟨_, rfl⟩
    by_cases hkn : k < n
    · obtain ⟨b, o, op, rfl, hop, B, t, d, hc0, hc1, hc2, hbk, ht⟩ := HL.out.at_ hb hkn
      have hbw := hb.size
      have hba := hb.alloc hb.size (.cells #[.int .i64 op.what, .slice B t d, .int .i64 op.i] 39)
      have hnA := hnet.fresh (Y := fun k => k = wo.heap.size) ((Below.refl wo.heap.size wo).alloc (Nat.le_refl _) (.cells #[.int .i64 op.what, .slice B t d, .int .i64 op.i] 39)) (fun k hk => by simp; omega)
      have hcp : Copy (wo.alloc (.cells #[.int .i64 op.what, .slice B t d, .int .i64 op.i] 39)) wo.heap.size op B t d :=
        ⟨by rw [cell_of_row _ _ _ _ _ _ (heap_alloc_new wo _)]; rfl, by rw [cell_of_row _ _ _ _ _ _ (heap_alloc_new wo _)]; rfl, by rw [cell_of_row _ _ _ _ _ _ (heap_alloc_new wo _)]; rfl, by simp⟩
      have hbka := Cells.later hbk ((Below.refl wo.heap.size wo).alloc (Nat.le_refl _) (.cells #[.int .i64 op.what, .slice B t d, .int .i64 op.i] 39))
      have hsz : (wo.alloc (.cells #[.int .i64 op.what, .slice B t d, .int .i64 op.i] 39)).heap.size = wo.heap.size + 1 := by simp
      have HBA := Lib.hid hba
      clear hnet hbk hba
      rcases what4 op.what with hs | hs | hs | hs
      · skip
        have hrow := Row.made (wo.alloc (.cells #[.int .i64 op.what, .slice B t d, .int .i64 op.i] 39)) 5 (wo.heap.size + 1) 1 (wo.heap.size + 1) 0 #[] [] (by simp) (Nat.le_refl _) rfl rfl
        have b1 := (Below.refl (wo.alloc (.cells #[.int .i64 op.what, .slice B t d, .int .i64 op.i] 39)).heap.size (wo.alloc (.cells #[.int .i64 op.what, .slice B t d, .int .i64 op.i] 39))).alloc (Nat.le_refl _) (.cells #[] 5)
        have hsrc := Cells.later hbka b1
        have hcb := hcp.later b1
        obtain ⟨hy0, hy1, hy2, _⟩ := id hcb
        go_wp2_with (first
          | (at_builtin; refine wpList_append_row rfl (.tmp 49) (.tmp 51) rfl Try.underlying28 info5 rfl (by omega) rfl hrow rfl hsrc (one_u8 op.b) (by omega) (by omega) (by simp) ?_; intro Ao co w4 hrow4 hg4 hat4 h04; simp only [Nat.zero_add, List.nil_append] at hrow4; have hbo : Below (wo.alloc (.cells #[.int .i64 op.what, .slice B t d, .int .i64 op.i] 39)).heap.size (wo.alloc (.cells #[.int .i64 op.what, .slice B t d, .int .i64 op.i] 39)) w4 := b1.grown hg4 (by simp) (by intro k hk; simp at hk; omega); have P4 := hnA.fresh (Y := inRow Ao) hbo (fun k hk => by have := hrow4.block k hk; rw [hsz]; omega); have hcp4 := hcp.later hbo; obtain ⟨hy0, hy1, hy2, _⟩ := id hcp4; have hbk4 := Cells.later hbka hbo; have Q9 := Lib.hid (P4.send (l := op.b) (fun C D h => send_ C D (inRow Ao) p ms Ao t co op.b w4 h hms hrow4.cells ht)))
          | (go_at_call 9; have Q9o := Q9.out; clear Q9; refine Q9o.mono ?_; clear Q9o; rintro e w5 ⟨rfl, P5, hf5⟩; have hcp5 := hcp4.turns hf5 (.inl (.inr rfl)); obtain ⟨hy0, hy1, hy2, _⟩ := id hcp5; have hbk5 := Cells.turns hbk4 hf5 (fun k hk => .inr hk); have hrow5 := hrow4.frame hf5 (fun k hk ht => ht.2 (.inr hk)); have Q13 := Lib.hid (P5.swap.send (l := op.b) (fun C D h => refsend C D (fun k => k < w.heap.size) q ms B t d op.b w5 h hms hbk5 ht)))
          | (go_at_call 13; have Q13o := Q13.out; clear Q13; refine Q13o.mono ?_; clear Q13o; rintro e w6 ⟨rfl, P6, hf6⟩; have hcp6 := hcp5.turns hf6 (.inl (.inr rfl)); have hrow6 := hrow5.frame hf6 (fun k hk ht => ht.2 (.inr hk))))
        have H6 := Lib.hid hcp6
        have HR6 := Lib.hid hrow6
        have HP6 := Lib.hid P6.swap
        have HB6 := Lib.hid (HBA.out.trans (((Turns.of_below hbo).turns (hf5.turns hf6 fun _ h => h) fun _ h => .inl h).low (b := w.heap.size) (X := fun k => None k ∨ k = wo.heap.size) HBA.out.size))
        clear hrow b1 hsrc hcb hy0 hy1 hy2 hrow4 hg4 hat4 h04 hbo P4 hcp4 hbk4 P5 hf5 hcp5 hbk5 hrow5 P6 hf6 hcp6 hrow6 hcp hnA
        go_loopw [15] (fun s wS => ∃ (j : Nat) (xs : List Value), j ≤ t ∧ s = .int .i64 j ∧ Row wS 5 (wo.heap.size + 1) Ao t co 1 xs ∧ (∀ u ∈ xs, ∃ z, u = .int .u8 z) ∧ Frame (inRow Ao) w6 wS) (fun s _ => t - (intOf s).toNat)
        case atStart => exact ⟨0, _, by omega, rfl, HR6.out, all_u8 _, Frame.refl _ _⟩
        case round =>
          obtain ⟨j, xs, hj, rfl, hrow, hall, hfr⟩ := hrel
          by_cases hjn : j < t
          · obtain ⟨g, u, rfl, _, hgl, hnc, hxu, hcu, hfu⟩ := hrow.at_ hjn
            obtain ⟨z, rfl⟩ := hall u (List.mem_of_getElem? hxu)
            have hset := Lib.hid (hrow.set j (.int .u8 (IntKind.u8.wrap (z + 1))))
            have hfr2 := Lib.hid (hfr.setCell (p := ⟨g, j, none⟩) (fun _ => rfl) (.int .u8 (IntKind.u8.wrap (z + 1))))
            have hall2 := Lib.hid (set_u8 hall j (IntKind.u8.wrap (z + 1)))
            clear hrow hfr hall
            go_wp2
            go_roundw
            case rel => exact ⟨j + 1, _, by omega, by go_num, by first | exact hset.out | (simpa using hset.out), hall2.out, by first | exact hfr2.out | (simpa using hfr2.out)⟩
            case measure => simp [intOf]; omega
          · obtain rfl : j = t := by omega
            obtain ⟨wS, rfl⟩ : ∃ wS, wS = wr := ⟨_, rfl⟩
            have PS := HP6.out.wrote hfr (fun k hk => .inr hk)
            have hS := H6.out.frame hfr (fun hk => by have := hrow.block _ hk; omega)
            have HBS := Lib.hid (HB6.out.trans (hfr.below HB6.out.size fun k _ hk => by have := hrow.block k hk; omega))
            clear hrow hall hfr
            have hms2 := sendL_len hms op.b
            obtain ⟨la, hla⟩ : ∃ la : List UInt8, la = [] := ⟨_, rfl⟩
            have hSa : Bytes wS (fun _ => True) none 0 la := hla ▸ Cells.none_ _ _ _ _
            have hSb := hSa
            obtain ⟨hs0, hs1, hs2, hsl⟩ := hS
            have T17 := Lib.hid (PS.at_ op.i)
            go_wp2_with (first
              | (go_at_call 17; have T17o := T17.out; clear T17; refine T17o.mono ?_; clear T17o; rintro e w5 ⟨Ax, nx, cx, rfl, hx, hnx, hbx⟩; have P5 := PS.later hbx; have hz2 := (hbx.cell (p := ⟨wo.heap.size, 2, none⟩) hsl).trans hs2; have T18 := Lib.hid (P5.shown op.i))
              | (go_at_call 18; have T18o := T18.out; clear T18; refine T18o.mono ?_; clear T18o; rintro e w6 ⟨Yy, Ay, ny, cy, rfl, hy, _, rfl⟩; have hvx := conv_str hx.cells cx; have hvy := conv_str hy cy))

            have HX := Lib.hid hx
            have HBX := Lib.hid hbx
            clear hx hy hvx hvy hbx P5 hs0 hs1 hs2 hz2
            go_loopw [21] (fun s wr => ∃ (j : Nat) (xs : List Value), j ≤ nx ∧ s = .int .i64 j ∧ Row wr 5 wS.heap.size Ax nx cx 1 xs ∧ (∀ u ∈ xs, ∃ z, u = .int .u8 z) ∧ Frame (inRow Ax) w6 wr) (fun s _ => nx - (intOf s).toNat)
            case atStart => exact ⟨0, _, by omega, rfl, HX.out, all_u8 _, Frame.refl _ _⟩
            case round =>
              obtain ⟨j, xs, hj, rfl, hrow, hall, hfr⟩ := hrel
              by_cases hjn : j < nx
              · obtain ⟨g, u, rfl, _, hgl, hnc, hxu, hcu, hfu⟩ := hrow.at_ hjn
                obtain ⟨z, rfl⟩ := hall u (List.mem_of_getElem? hxu)
                have hset := Lib.hid (hrow.set j (.int .u8 (IntKind.u8.wrap (z + 1))))
                have hfr2 := Lib.hid (hfr.setCell (p := ⟨g, j, none⟩) (fun _ => rfl) (.int .u8 (IntKind.u8.wrap (z + 1))))
                have hall2 := Lib.hid (set_u8 hall j (IntKind.u8.wrap (z + 1)))
                clear hrow hfr hall
                go_wp2
                go_roundw
                case rel => exact ⟨j + 1, _, by omega, by go_num, by first | exact hset.out | (simpa using hset.out), hall2.out, by first | exact hfr2.out | (simpa using hfr2.out)⟩
                case measure => simp [intOf]; omega
              · obtain rfl : j = nx := by omega
                have hbe : Below wS.heap.size wS wr := HBX.out.trans (hfr.below HBX.out.size fun q' _ hq' => (HX.out.block q' hq').1)
                have PE := PS.later hbe
                obtain ⟨Aq, cq, hcq⟩ := PE.cell
                have QL : Hid (∀ N, Calls Try.prog 12 #[.pointer (some ⟨p, 0, none⟩)] (wr.drewN N) fun e w'' => e = .returned (.int .i64 ((sendL ms op.b).length : Int)) ∧ ∃ m, w'' = wr.drewN m) := Lib.hid fun N => (Pair.len (PE.later (w' := wr.drewN N) ⟨rfl, rfl, rfl, Nat.le_refl _, fun _ _ => rfl⟩)).mono fun e w' h => ⟨h.1, N, h.2.symm⟩
                have hva : ∀ N, (convert 28 9 (.slice none 0 0)).run Try.prog (wr.drewN N) = .ok (.string (str la)) (wr.drewN N) := fun N => conv_str (Cells.drewN (Cells.later hSa hbe) N) _
                have hvb : ∀ N, (convert 28 9 (.slice none 0 0)).run Try.prog (wr.drewN N) = .ok (.string (str la)) (wr.drewN N) := fun N => conv_str (Cells.drewN (Cells.later hSb hbe) N) _
                have PE2 := Lib.hid PE
                have HF := Lib.hid ((HBS.out).trans (Below.mono_ hbe HBS.out.size))
                clear PE hrow hfr hall hbe
                go_wp2
                go_quiet ((go_at_call 12; exact QL.out _))
                go_wp2
                go_roundw
                case rel => exact ⟨k + 1, sendL ms op.b, by omega, hms2, by go_num, (PE2.out.mono (fun _ h => h.elim) fun _ h => h.elim).later ⟨rfl, rfl, rfl, Nat.le_refl _, fun _ _ => rfl⟩, HF.out.os, HF.out.tape, HF.out.output, HF.out.size, HF.out.block⟩
                case measure => simp [intOf]; omega
      · skip
        obtain ⟨hy0, hy1, hy2, _⟩ := id hcp
        have QA := Lib.hid (hnA.take (fun C D h => take_ C D p ms op.i _ h hms))
        go_wp2_with (first
          | (go_at_call 11; have QAo := QA.out; clear QA; refine QAo.mono ?_; clear QAo; rintro e w4 ⟨Aa, na, ca, Ya, rfl, hba, P4, hf4⟩; have hcp4 := hcp.turns hf4 (.inr rfl); obtain ⟨hy0, hy1, hy2, _⟩ := id hcp4; have QB := Lib.hid (P4.swap.take (fun C D h => reftake C D q ms op.i _ h hms)))
          | (go_at_call 14; have QBo := QB.out; clear QB; refine QBo.mono ?_; clear QBo; rintro e wS ⟨Ab, nb, cb, Yb, rfl, hSb, P5, hf5⟩; have hSa := Cells.turns hba hf5 (fun k hk => .inl (.inr hk)); have hS := hcp4.turns hf5 (.inl (.inr rfl)); have HBS := Lib.hid (HBA.out.trans ((hf4.turns hf5 fun _ h => .inl h).low HBA.out.size)); have PS := P5.swap; clear P4 P5 hf4 hcp4 hnA hcp hy0 hy1 hy2 hbka; clear hba hf5; obtain ⟨hs0, hs1, hs2, hsl⟩ := hS; have T17 := Lib.hid (PS.at_ op.i))
          | (go_at_call 17; have T17o := T17.out; clear T17; refine T17o.mono ?_; clear T17o; rintro e w5 ⟨Ax, nx, cx, rfl, hx, hnx, hbx⟩; have P5 := PS.later hbx; have hz2 := (hbx.cell (p := ⟨wo.heap.size, 2, none⟩) hsl).trans hs2; have T18 := Lib.hid (P5.shown op.i))
          | (go_at_call 18; have T18o := T18.out; clear T18; refine T18o.mono ?_; clear T18o; rintro e w6 ⟨Yy, Ay, ny, cy, rfl, hy, _, rfl⟩; have hvx := conv_str hx.cells cx; have hvy := conv_str hy cy))
        obtain ⟨la, hla⟩ : ∃ la, la = (atOf ms op.i).getD [] := ⟨_, rfl⟩
        rw [← hla] at hSa hSb
        have hms2 := takeL_len hms op.i

        have HX := Lib.hid hx
        have HBX := Lib.hid hbx
        clear hx hy hvx hvy hbx P5 hs0 hs1 hs2 hz2
        go_loopw [21] (fun s wr => ∃ (j : Nat) (xs : List Value), j ≤ nx ∧ s = .int .i64 j ∧ Row wr 5 wS.heap.size Ax nx cx 1 xs ∧ (∀ u ∈ xs, ∃ z, u = .int .u8 z) ∧ Frame (inRow Ax) w6 wr) (fun s _ => nx - (intOf s).toNat)
        case atStart => exact ⟨0, _, by omega, rfl, HX.out, all_u8 _, Frame.refl _ _⟩
        case round =>
          obtain ⟨j, xs, hj, rfl, hrow, hall, hfr⟩ := hrel
          by_cases hjn : j < nx
          · obtain ⟨g, u, rfl, _, hgl, hnc, hxu, hcu, hfu⟩ := hrow.at_ hjn
            obtain ⟨z, rfl⟩ := hall u (List.mem_of_getElem? hxu)
            have hset := Lib.hid (hrow.set j (.int .u8 (IntKind.u8.wrap (z + 1))))
            have hfr2 := Lib.hid (hfr.setCell (p := ⟨g, j, none⟩) (fun _ => rfl) (.int .u8 (IntKind.u8.wrap (z + 1))))
            have hall2 := Lib.hid (set_u8 hall j (IntKind.u8.wrap (z + 1)))
            clear hrow hfr hall
            go_wp2
            go_roundw
            case rel => exact ⟨j + 1, _, by omega, by go_num, by first | exact hset.out | (simpa using hset.out), hall2.out, by first | exact hfr2.out | (simpa using hfr2.out)⟩
            case measure => simp [intOf]; omega
          · obtain rfl : j = nx := by omega
            have hbe : Below wS.heap.size wS wr := HBX.out.trans (hfr.below HBX.out.size fun q' _ hq' => (HX.out.block q' hq').1)
            have PE := PS.later hbe
            obtain ⟨Aq, cq, hcq⟩ := PE.cell
            have QL : Hid (∀ N, Calls Try.prog 12 #[.pointer (some ⟨p, 0, none⟩)] (wr.drewN N) fun e w'' => e = .returned (.int .i64 ((takeL ms op.i).length : Int)) ∧ ∃ m, w'' = wr.drewN m) := Lib.hid fun N => (Pair.len (PE.later (w' := wr.drewN N) ⟨rfl, rfl, rfl, Nat.le_refl _, fun _ _ => rfl⟩)).mono fun e w' h => ⟨h.1, N, h.2.symm⟩
            have hva : ∀ N, (convert 28 9 (.slice Aa na ca)).run Try.prog (wr.drewN N) = .ok (.string (str la)) (wr.drewN N) := fun N => conv_str (Cells.drewN (Cells.later hSa hbe) N) _
            have hvb : ∀ N, (convert 28 9 (.slice Ab nb cb)).run Try.prog (wr.drewN N) = .ok (.string (str la)) (wr.drewN N) := fun N => conv_str (Cells.drewN (Cells.later hSb hbe) N) _
            have PE2 := Lib.hid PE
            have HF := Lib.hid ((HBS.out).trans (Below.mono_ hbe HBS.out.size))
            clear PE hrow hfr hall hbe
            go_wp2
            go_quiet ((go_at_call 12; exact QL.out _))
            go_wp2
            go_roundw
            case rel => exact ⟨k + 1, takeL ms op.i, by omega, hms2, by go_num, (PE2.out.mono (fun _ h => h.elim) fun _ h => h.elim).later ⟨rfl, rfl, rfl, Nat.le_refl _, fun _ _ => rfl⟩, HF.out.os, HF.out.tape, HF.out.output, HF.out.size, HF.out.block⟩
            case measure => simp [intOf]; omega
      · skip
        obtain ⟨hy0, hy1, hy2, _⟩ := id hcp
        have QA := Lib.hid (hnA.drop (fun C D h => drop_ C D p ms op.i _ h hms))
        go_wp2_with (first
          | (go_at_call 15; have QAo := QA.out; clear QA; refine QAo.mono ?_; clear QAo; rintro e w4 ⟨rfl, P4, hf4⟩; have hcp4 := hcp.turns hf4 (.inr rfl); obtain ⟨hy0, hy1, hy2, _⟩ := id hcp4; have QB := Lib.hid (P4.swap.take (fun C D h => reftake C D q ms op.i _ h hms)))
          | (go_at_call 14; have QBo := QB.out; clear QB; refine QBo.mono ?_; clear QBo; rintro e wS ⟨Ab, nb, cb, Yb, rfl, hSb0, P5, hf5⟩; have hS := hcp4.turns hf5 (.inr rfl); have HBS := Lib.hid (HBA.out.trans ((hf4.turns hf5 fun _ h => h).low HBA.out.size)); have PS := P5.swap; clear P4 P5 hf4 hcp4 hnA hcp hy0 hy1 hy2 hbka; clear hSb0 hf5; obtain ⟨hs0, hs1, hs2, hsl⟩ := hS; have T17 := Lib.hid (PS.at_ op.i))
          | (go_at_call 17; have T17o := T17.out; clear T17; refine T17o.mono ?_; clear T17o; rintro e w5 ⟨Ax, nx, cx, rfl, hx, hnx, hbx⟩; have P5 := PS.later hbx; have hz2 := (hbx.cell (p := ⟨wo.heap.size, 2, none⟩) hsl).trans hs2; have T18 := Lib.hid (P5.shown op.i))
          | (go_at_call 18; have T18o := T18.out; clear T18; refine T18o.mono ?_; clear T18o; rintro e w6 ⟨Yy, Ay, ny, cy, rfl, hy, _, rfl⟩; have hvx := conv_str hx.cells cx; have hvy := conv_str hy cy))
        obtain ⟨la, hla⟩ : ∃ la : List UInt8, la = [] := ⟨_, rfl⟩
        have hSa : Bytes wS (fun _ => True) none 0 la := hla ▸ Cells.none_ _ _ _ _
        have hSb := hSa
        have hms2 := takeL_len hms op.i

        have HX := Lib.hid hx
        have HBX := Lib.hid hbx
        clear hx hy hvx hvy hbx P5 hs0 hs1 hs2 hz2
        go_loopw [21] (fun s wr => ∃ (j : Nat) (xs : List Value), j ≤ nx ∧ s = .int .i64 j ∧ Row wr 5 wS.heap.size Ax nx cx 1 xs ∧ (∀ u ∈ xs, ∃ z, u = .int .u8 z) ∧ Frame (inRow Ax) w6 wr) (fun s _ => nx - (intOf s).toNat)
        case atStart => exact ⟨0, _, by omega, rfl, HX.out, all_u8 _, Frame.refl _ _⟩
        case round =>
          obtain ⟨j, xs, hj, rfl, hrow, hall, hfr⟩ := hrel
          by_cases hjn : j < nx
          · obtain ⟨g, u, rfl, _, hgl, hnc, hxu, hcu, hfu⟩ := hrow.at_ hjn
            obtain ⟨z, rfl⟩ := hall u (List.mem_of_getElem? hxu)
            have hset := Lib.hid (hrow.set j (.int .u8 (IntKind.u8.wrap (z + 1))))
            have hfr2 := Lib.hid (hfr.setCell (p := ⟨g, j, none⟩) (fun _ => rfl) (.int .u8 (IntKind.u8.wrap (z + 1))))
            have hall2 := Lib.hid (set_u8 hall j (IntKind.u8.wrap (z + 1)))
            clear hrow hfr hall
            go_wp2
            go_roundw
            case rel => exact ⟨j + 1, _, by omega, by go_num, by first | exact hset.out | (simpa using hset.out), hall2.out, by first | exact hfr2.out | (simpa using hfr2.out)⟩
            case measure => simp [intOf]; omega
          · obtain rfl : j = nx := by omega
            have hbe : Below wS.heap.size wS wr := HBX.out.trans (hfr.below HBX.out.size fun q' _ hq' => (HX.out.block q' hq').1)
            have PE := PS.later hbe
            obtain ⟨Aq, cq, hcq⟩ := PE.cell
            have QL : Hid (∀ N, Calls Try.prog 12 #[.pointer (some ⟨p, 0, none⟩)] (wr.drewN N) fun e w'' => e = .returned (.int .i64 ((takeL ms op.i).length : Int)) ∧ ∃ m, w'' = wr.drewN m) := Lib.hid fun N => (Pair.len (PE.later (w' := wr.drewN N) ⟨rfl, rfl, rfl, Nat.le_refl _, fun _ _ => rfl⟩)).mono fun e w' h => ⟨h.1, N, h.2.symm⟩
            have hva : ∀ N, (convert 28 9 (.slice none 0 0)).run Try.prog (wr.drewN N) = .ok (.string (str la)) (wr.drewN N) := fun N => conv_str (Cells.drewN (Cells.later hSa hbe) N) _
            have hvb : ∀ N, (convert 28 9 (.slice none 0 0)).run Try.prog (wr.drewN N) = .ok (.string (str la)) (wr.drewN N) := fun N => conv_str (Cells.drewN (Cells.later hSb hbe) N) _
            have PE2 := Lib.hid PE
            have HF := Lib.hid ((HBS.out).trans (Below.mono_ hbe HBS.out.size))
            clear PE hrow hfr hall hbe
            go_wp2
            go_quiet ((go_at_call 12; exact QL.out _))
            go_wp2
            go_roundw
            case rel => exact ⟨k + 1, takeL ms op.i, by omega, hms2, by go_num, (PE2.out.mono (fun _ h => h.elim) fun _ h => h.elim).later ⟨rfl, rfl, rfl, Nat.le_refl _, fun _ _ => rfl⟩, HF.out.os, HF.out.tape, HF.out.output, HF.out.size, HF.out.block⟩
            case measure => simp [intOf]; omega
      · skip
        obtain ⟨hy0, hy1, hy2, _⟩ := id hcp
        have QA := Lib.hid (hnA.dup (fun C D h => dup_ C D p ms op.i _ h hms))
        go_wp2_with (first
          | (go_at_call 10; have QAo := QA.out; clear QA; refine QAo.mono ?_; clear QAo; rintro e w4 ⟨rfl, P4, hf4⟩; have hcp4 := hcp.turns hf4 (.inr rfl); obtain ⟨hy0, hy1, hy2, _⟩ := id hcp4; have QB := Lib.hid (P4.swap.dup (fun C D h => refdup C D q ms op.i _ h hms)))
          | (go_at_call 16; have QBo := QB.out; clear QB; refine QBo.mono ?_; clear QBo; rintro e wS ⟨rfl, P5, hf5⟩; have hS := hcp4.turns hf5 (.inr rfl); have HBS := Lib.hid (HBA.out.trans ((hf4.turns hf5 fun _ h => h).low HBA.out.size)); have PS := P5.swap; clear P4 P5 hf4 hcp4 hnA hcp hy0 hy1 hy2 hbka; clear hf5; obtain ⟨hs0, hs1, hs2, hsl⟩ := hS; have T17 := Lib.hid (PS.at_ op.i))
          | (go_at_call 17; have T17o := T17.out; clear T17; refine T17o.mono ?_; clear T17o; rintro e w5 ⟨Ax, nx, cx, rfl, hx, hnx, hbx⟩; have P5 := PS.later hbx; have hz2 := (hbx.cell (p := ⟨wo.heap.size, 2, none⟩) hsl).trans hs2; have T18 := Lib.hid (P5.shown op.i))
          | (go_at_call 18; have T18o := T18.out; clear T18; refine T18o.mono ?_; clear T18o; rintro e w6 ⟨Yy, Ay, ny, cy, rfl, hy, _, rfl⟩; have hvx := conv_str hx.cells cx; have hvy := conv_str hy cy))
        obtain ⟨la, hla⟩ : ∃ la : List UInt8, la = [] := ⟨_, rfl⟩
        have hSa : Bytes wS (fun _ => True) none 0 la := hla ▸ Cells.none_ _ _ _ _
        have hSb := hSa
        have hms2 := dupL_len hms op.i

        have HX := Lib.hid hx
        have HBX := Lib.hid hbx
        clear hx hy hvx hvy hbx P5 hs0 hs1 hs2 hz2
        go_loopw [21] (fun s wr => ∃ (j : Nat) (xs : List Value), j ≤ nx ∧ s = .int .i64 j ∧ Row wr 5 wS.heap.size Ax nx cx 1 xs ∧ (∀ u ∈ xs, ∃ z, u = .int .u8 z) ∧ Frame (inRow Ax) w6 wr) (fun s _ => nx - (intOf s).toNat)
        case atStart => exact ⟨0, _, by omega, rfl, HX.out, all_u8 _, Frame.refl _ _⟩
        case round =>
          obtain ⟨j, xs, hj, rfl, hrow, hall, hfr⟩ := hrel
          by_cases hjn : j < nx
          · obtain ⟨g, u, rfl, _, hgl, hnc, hxu, hcu, hfu⟩ := hrow.at_ hjn
            obtain ⟨z, rfl⟩ := hall u (List.mem_of_getElem? hxu)
            have hset := Lib.hid (hrow.set j (.int .u8 (IntKind.u8.wrap (z + 1))))
            have hfr2 := Lib.hid (hfr.setCell (p := ⟨g, j, none⟩) (fun _ => rfl) (.int .u8 (IntKind.u8.wrap (z + 1))))
            have hall2 := Lib.hid (set_u8 hall j (IntKind.u8.wrap (z + 1)))
            clear hrow hfr hall
            go_wp2
            go_roundw
            case rel => exact ⟨j + 1, _, by omega, by go_num, by first | exact hset.out | (simpa using hset.out), hall2.out, by first | exact hfr2.out | (simpa using hfr2.out)⟩
            case measure => simp [intOf]; omega
          · obtain rfl : j = nx := by omega
            have hbe : Below wS.heap.size wS wr := HBX.out.trans (hfr.below HBX.out.size fun q' _ hq' => (HX.out.block q' hq').1)
            have PE := PS.later hbe
            obtain ⟨Aq, cq, hcq⟩ := PE.cell
            have QL : Hid (∀ N, Calls Try.prog 12 #[.pointer (some ⟨p, 0, none⟩)] (wr.drewN N) fun e w'' => e = .returned (.int .i64 ((dupL ms op.i).length : Int)) ∧ ∃ m, w'' = wr.drewN m) := Lib.hid fun N => (Pair.len (PE.later (w' := wr.drewN N) ⟨rfl, rfl, rfl, Nat.le_refl _, fun _ _ => rfl⟩)).mono fun e w' h => ⟨h.1, N, h.2.symm⟩
            have hva : ∀ N, (convert 28 9 (.slice none 0 0)).run Try.prog (wr.drewN N) = .ok (.string (str la)) (wr.drewN N) := fun N => conv_str (Cells.drewN (Cells.later hSa hbe) N) _
            have hvb : ∀ N, (convert 28 9 (.slice none 0 0)).run Try.prog (wr.drewN N) = .ok (.string (str la)) (wr.drewN N) := fun N => conv_str (Cells.drewN (Cells.later hSb hbe) N) _
            have PE2 := Lib.hid PE
            have HF := Lib.hid ((HBS.out).trans (Below.mono_ hbe HBS.out.size))
            clear PE hrow hfr hall hbe
            go_wp2
            go_quiet ((go_at_call 12; exact QL.out _))
            go_wp2
            go_roundw
            case rel => exact ⟨k + 1, dupL ms op.i, by omega, hms2, by go_num, (PE2.out.mono (fun _ h => h.elim) fun _ h => h.elim).later ⟨rfl, rfl, rfl, Nat.le_refl _, fun _ _ => rfl⟩, HF.out.os, HF.out.tape, HF.out.output, HF.out.size, HF.out.block⟩
            case measure => simp [intOf]; omega
    · obtain rfl : k = n := by omega
      go_wp2
      go_ret
      exact ⟨by simp, hb⟩
end Go.Proofs.Ytddcfgbembjbhaa
