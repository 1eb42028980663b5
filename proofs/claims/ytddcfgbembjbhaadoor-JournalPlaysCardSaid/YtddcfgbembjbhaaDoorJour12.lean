/- The document's journal: New, Effect, Fuse, Append, Sync: walked. -/
import Derived.Test.YtddcfgbembjbhaaDoorJour11
namespace Go.Proofs.YtddcfgbembjbhaaDoor
open Go.RowKit
set_option linter.unusedVariables false
set_option linter.unusedSimpArgs false
set_option maxRecDepth 100000 in
set_option maxHeartbeats 2000000 in
theorem refNewJ (w : World) : Calls Tryd.prog 66 #[] w fun e w' => e = .returned (.pointer (some ⟨w.heap.size, 0, none⟩)) ∧ JIn w' 85 w.heap.size (fun k => k = w.heap.size) JV.new ∧ Below w.heap.size w w' := by
  go_enter Tryd.func66, Tryd.ntmps66
  go_wp2
  go_ret
  refine ⟨rfl, ⟨none, 0, 0, none, 0, 0, heap_alloc_new w _, OwnB.nil _ _, OwnB.nil _ _, rfl, fun k hk => (by simp at hk), fun k hk => (by simp at hk), fun k hk => (by simp at hk), fun k hk => (by subst hk; simp)⟩, (Below.refl _ w).alloc (Nat.le_refl _) _⟩
set_option maxRecDepth 100000 in
set_option maxHeartbeats 2000000 in
theorem refEffect (w : World) (g : Nat) (C : Nat → Prop) (J : JV) (A1 : Option Addr) (n1 c1 : Nat) (A2 : Option Addr) (n2 c2 : Nat) (h : JAt w 85 g C J A1 n1 c1 A2 n2 c2) (hf : -9223372036854775808 ≤ J.fuse ∧ J.fuse ≤ 9223372036854775807) :
    Calls Tryd.prog 69 #[.pointer (some ⟨g, 0, none⟩)] w fun e w' => e = .returned (.int .i64 J.eff.1) ∧ JAt w' 85 g C J.eff.2 A1 n1 c1 A2 n2 c2 ∧ Kept (fun k => k = g) w w' := by
  have e2 := h.cell2
  have e3 := h.cell3
  have z2 := h.frozen 2
  have z3 := h.frozen 3
  have H := Lib.hid h
  clear h
  cases hd : J.down with
  | true =>
    rw [hd] at e3
    have HE := Lib.hid (eff_down hd)
    clear hd
    go_enter Tryd.func69, Tryd.ntmps69
    go_wp2
    go_ret
    exact ⟨by rw [HE.out]; simp, by rw [HE.out]; exact H.out, Kept.refl _ _⟩
  | false =>
    rw [hd] at e3
    by_cases h0 : J.fuse = 0
    · have HE := Lib.hid (eff_zero hd h0)
      have hJ := (H.out.setDown (by decide) true).setFuse (by decide) (-1)
      have hK : Kept (fun k => k = g) w ((w.setCell ⟨g, 3, none⟩ (.bool true)).setCell ⟨g, 2, none⟩ (.int .i64 (-1))) := ((Kept.refl (fun k => k = g) w).setCell (fun _ => rfl) _).setCell (fun _ => rfl) _
      have HJ := Lib.hid hJ
      have HK := Lib.hid hK
      have e3' := hJ.cell3
      rw [h0] at e2
      clear hd h0 hJ hK
      go_enter Tryd.func69, Tryd.ntmps69
      go_wp2
      go_ret
      exact ⟨by rw [HE.out]; simp, by rw [HE.out]; exact HJ.out, HK.out⟩
    · by_cases hp : 0 < J.fuse
      · have HE := Lib.hid (eff_pos hd hp)
        have HJ := Lib.hid (H.out.setFuse (by decide) (J.fuse - 1))
        have HK := Lib.hid (((Kept.refl (fun k => k = g) w).setCell (fun _ => rfl) (.int .i64 (J.fuse - 1)) : Kept (fun k => k = g) w (w.setCell ⟨g, 2, none⟩ (.int .i64 (J.fuse - 1)))))
        have hwr : IntKind.i64.wrap (J.fuse - 1) = J.fuse - 1 := IntWalk.i64_in _ (by omega)
        generalize J.fuse = f at e2 hp h0 hf hwr HJ HK HE
        go_enter Tryd.func69, Tryd.ntmps69
        go_wp2
        go_ret
        exact ⟨by rw [HE.out]; simp, by rw [HE.out]; exact HJ.out, HK.out⟩
      · have HE := Lib.hid (eff_neg hd (by omega))
        generalize J.fuse = f at e2 hp h0 hf
        go_enter Tryd.func69, Tryd.ntmps69
        go_wp2
        go_ret
        exact ⟨by rw [HE.out]; simp, by rw [HE.out]; exact H.out, Kept.refl _ _⟩
set_option maxRecDepth 100000 in
set_option maxHeartbeats 2000000 in
theorem refFuse (w : World) (g : Nat) (C : Nat → Prop) (J : JV) (h : JIn w 85 g C J) (n : Int) :
    Calls Tryd.prog 70 #[.pointer (some ⟨g, 0, none⟩), .int .i64 n] w fun e w' => (∃ v, e = .returned v) ∧ JIn w' 85 g (since w C w') (J.setFuse n) ∧ Kept C w w' := by
  obtain ⟨A1, n1, c1, A2, n2, c2, h⟩ := h
  have e2 := h.cell2
  have z2 := h.frozen 2
  have HJ := Lib.hid (h.setFuse (by decide) (max n (-1)))
  have HK : Hid (Kept C w (w.setCell ⟨g, 2, none⟩ (.int .i64 (max n (-1))))) := Lib.hid ((Kept.refl C w).setCell (fun _ => h.in0) _)
  clear h
  by_cases hn : -1 ≤ n
  · have hm : max n (-1) = n := by omega
    rw [hm] at HJ HK
    have HS := Lib.hid (show J.setFuse n = { J with fuse := n } by unfold JV.setFuse; rw [hm])
    clear hm
    go_enter Tryd.func70, Tryd.ntmps70
    go_wp2
    go_end0
    exact ⟨⟨_, rfl⟩, ⟨_, _, _, _, _, _, by rw [HS.out]; exact HJ.out.to_ w⟩, HK.out⟩
  · have hm : max n (-1) = -1 := by omega
    rw [hm] at HJ HK
    have HS := Lib.hid (show J.setFuse n = { J with fuse := -1 } by unfold JV.setFuse; rw [hm])
    clear hm
    go_enter Tryd.func70, Tryd.ntmps70
    go_wp2
    go_end0
    exact ⟨⟨_, rfl⟩, ⟨_, _, _, _, _, _, by rw [HS.out]; exact HJ.out.to_ w⟩, HK.out⟩
set_option maxRecDepth 100000 in
set_option maxHeartbeats 2000000 in
theorem refAppend (w : World) (g : Nat) (C : Nat → Prop) (J : JV) (h : JIn w 85 g C J) (hf : -9223372036854775808 ≤ J.fuse ∧ J.fuse ≤ 9223372036854775807) (k : UInt8) (Ab : Option Addr) (nb cb B : Nat) (lb : List UInt8)
    (hr : BytesAt w B Ab nb lb) (hB : B ≤ w.heap.size) (hnb : nb ≤ 140737488351232) (hn : J.rest.length ≤ 140737488300000) :
    Calls Tryd.prog 67 #[.pointer (some ⟨g, 0, none⟩), .int .u8 (k.toNat : Int), .slice Ab nb cb] w fun e w' => e = .returned (.int .i64 (J.append k lb).1) ∧ JIn w' 85 g (since w C w') (J.append k lb).2 ∧ Kept C w w' := by
  obtain ⟨A1, n1, c1, A2, n2, c2, h⟩ := h
  have QP := Lib.hid (refPut k Ab nb cb lb B w hr hB hnb)
  have hlb := hr.1
  have hl2 := h.rest.len
  have hin := h.in2
  have hin0 := h.in0
  have H := Lib.hid h
  clear h hr
  go_enter Tryd.func67, Tryd.ntmps67
  go_wp2_with fail
  refine QP.out.mono ?_
  rintro e w1 ⟨A3, n3, c3, rfl, ho3, hb3⟩
  have hz1 := hb3.size
  have H1 := Lib.hid (H.out.later hb3)
  have HB1 := Lib.hid hb3
  by_cases h8 : 8192 < lb.length
  · have hE : putE lb = 2 := by unfold putE; rw [if_pos h8]
    rw [hE]
    have HA := Lib.hid (show J.append k lb = (2, J) by unfold JV.append; rw [if_pos h8])
    clear ho3 hb3 hE
    go_wp2
    go_ret
    refine ⟨by rw [HA.out]; rfl, ⟨A1, n1, c1, A2, n2, c2, ?_⟩, ?_⟩
    · rw [HA.out]
      exact H1.out.to_ w
    · exact Kept.of_below HB1.out
  · have hE : putE lb = 0 := by unfold putE; rw [if_neg h8]
    have hP : putB k lb = fput k lb := by unfold putB; rw [if_neg h8]
    rw [hE]
    rw [hP] at ho3
    have hn3 : n3 = lb.length + 8 := by rw [← ho3.len, fput_len]
    have hrow : ∀ q, C q → A3.map (·.block) ≠ some q := fun q hq e => by
      have h3 := H.out.bd q hq
      rcases ho3.map_form with e' | ⟨q', _, e', hb, _⟩
      · rw [e] at e'; cases e'
      · rw [e] at e'; cases e'; omega
    have HRW := Lib.hid hrow
    have HN3 := Lib.hid hn3
    have HO3 := Lib.hid ho3
    clear ho3 hb3 hE hP hrow hn3
    go_wp2_with fail
    refine (refEffect w1 g C J A1 n1 c1 A2 n2 c2 H1.out hf).mono ?_
    rintro e w2 ⟨rfl, hJ2, hK2⟩
    have HK2 := Lib.hid ((Kept.of_below HB1.out : Kept C w w1).trans hK2 (fun i _ e => e ▸ hin0))
    have hs2 := HK2.out.size
    have h12 := hK2.size
    have HJ2 := Lib.hid hJ2
    have HY := Lib.hid (bytes_kept HO3.out.bytes (Nat.le_refl _) hK2 (fun q e => HRW.out q (e ▸ hin0)))
    have H3N : n2 + n3 ≤ 140737488355328 := by have := HN3.out; omega
    clear hJ2 hK2
    by_cases h1 : J.eff.1 = 0
    · have HA := Lib.hid (show J.append k lb = (0, { J.eff.2 with rest := J.rest ++ fput k lb }) by unfold JV.append; rw [if_neg h8, if_pos h1])
      have hrest := (eff_rest J).1
      have e1 := HJ2.out.cell1
      have ho := HJ2.out.rest
      rw [hrest] at ho
      have HO := Lib.hid ho
      rw [h1]
      clear h1 hrest ho
      go_wp2_with (at_builtin; refine wpList_append_bytes rfl (.tmp 27) (.tmp 28) rfl rfl HO.out rfl HY.out H3N (Nat.zero_le _) ?_; intro A6 c6 w6 ho6 hg6 hat6; have hb6 := HJ2.out.blk_grown (by decide) hg6 (fun r e => .inr e); have f1 : w6.cell? ⟨g, 1, none⟩ = some (.slice A2 n2 c2) := (by rw [cell_of_row _ _ _ _ _ _ hb6]; rfl); have f2 : w6.frozen? ⟨g, 1, none⟩ = false := (by simp [World.frozen?, hb6]); have HJ6 := Lib.hid (HJ2.out.setRest (by decide) hg6 (fun r e => e) ho6 (by rcases hat6 with e | e; exact .inl e; exact .inr (fun k hk => by rw [e] at hk; cases hk; exact Nat.le_refl _))); have HK6 := Lib.hid ((HK2.out.grown hg6 (fun k e _ => hin k e)).setCell (p := ⟨g, 1, none⟩) (fun _ => hin0) (.slice A6 (n2 + n3) c6)); have hsz6 := (grownBy_cell w6 g 1 (.slice A6 (n2 + n3) c6)).size; clear hb6 hg6 ho6 hat6)
      go_ret
      refine ⟨by rw [HA.out]; rfl, ⟨_, _, _, _, _, _, by rw [HA.out]; exact HJ6.out.more (fun k hk => hk.imp id (fun ⟨a, b⟩ => ⟨Nat.le_trans hs2 a, Nat.lt_of_lt_of_le b hsz6⟩)) (fun k hk => hk.elim (fun hc => HJ6.out.bd k (.inl hc)) (fun h => h.2))⟩, HK6.out⟩
    · have h61 : J.eff.1 = 61 := by
        unfold JV.eff at h1 ⊢
        split <;> (try rfl)
        split <;> (try rfl)
        split <;> simp_all
      have HA := Lib.hid (show J.append k lb = J.eff by unfold JV.append; rw [if_neg h8, if_neg h1])
      have H61 := Lib.hid h61
      rw [h61]
      clear h1 h61
      go_wp2
      go_ret
      refine ⟨by rw [HA.out, H61.out]; rfl, ⟨_, _, _, _, _, _, by rw [HA.out]; exact HJ2.out.to_ w⟩, HK2.out⟩
set_option maxRecDepth 100000 in
set_option maxHeartbeats 2000000 in
theorem refSync (w : World) (g : Nat) (C : Nat → Prop) (J : JV) (h : JIn w 85 g C J) (hf : -9223372036854775808 ≤ J.fuse ∧ J.fuse ≤ 9223372036854775807) (hn : J.kept.length + J.rest.length ≤ 140737488355328) :
    Calls Tryd.prog 68 #[.pointer (some ⟨g, 0, none⟩)] w fun e w' => e = .returned (.int .i64 J.sync.1) ∧ JIn w' 85 g (since w C w') J.sync.2 ∧ Kept C w w' := by
  obtain ⟨A1, n1, c1, A2, n2, c2, h⟩ := h
  have hl1 := h.kept.len
  have hl2 := h.rest.len
  have hin := h.in1
  have hin0 := h.in0
  have QE := Lib.hid (refEffect w g C J A1 n1 c1 A2 n2 c2 h hf)
  clear h
  go_enter Tryd.func68, Tryd.ntmps68
  go_wp2_with fail
  refine QE.out.mono ?_
  rintro e w2 ⟨rfl, hJ2, hK2⟩
  have HK2 := Lib.hid ((Kept.refl C w).trans hK2 (fun i _ e => e ▸ hin0))
  have hs2 := HK2.out.size
  clear hK2
  by_cases h1 : J.eff.1 = 0
  · have HA := Lib.hid (show J.sync = (0, { J.eff.2 with kept := J.kept ++ J.rest, rest := [] }) by unfold JV.sync; rw [if_pos h1])
    have H := Lib.hid (hJ2.later (w' := w2.drew) (Below.refl _ w2).drew)
    have S0 : w2.drew.cell? ⟨g, 0, none⟩ = some (.slice A1 n1 c1) ∧ w2.drew.cell? ⟨g, 1, none⟩ = some (.slice A2 n2 c2) := ⟨hJ2.cell0, hJ2.cell1⟩
    have hkept := (eff_rest J).2
    have hrest := (eff_rest J).1
    rw [h1]
    clear h1 hJ2
    go_wp2_with fail
    refine region_T (fun i w' => i ∉ [0, 9, 10, 11, 12] → w'.cell? ⟨g, 0, none⟩ = some (.slice A1 n1 c1) ∧ w'.cell? ⟨g, 1, none⟩ = some (.slice A2 n2 c2)) (by kernel_rfl) ?_
    simp only [List.size_toArray, List.length_cons, List.length_nil, Nat.reduceAdd, Array.replicate_succ, Array.replicate_zero]
    refine wpAnyT_take (i := 0) (d := some 9) (v := .pointer (some ⟨g, 0, none⟩)) [] (fun _ => True) rfl rfl (by kernel_rfl) (by kernel_rfl) (by kernel_rfl) (by kernel_rfl) (by kernel_rfl) (fun _ _ _ _ => trivial) (fun w' _ h' => absurd (by simp) h') (fun _ _ _ h => h) (by rfl) (fun w' h => by go_simp) trivial ?_
    simp only [Act.put, List.setIfInBounds_toArray, List.set_cons_zero, List.set_cons_succ]
    refine wpAnyT_take (i := 1) (d := some 10) (v := .pointer (some ⟨g, 0, none⟩)) [0, 9, 10, 11, 12] _ rfl rfl (by kernel_rfl) (by kernel_rfl) (by kernel_rfl) (by kernel_rfl) (by kernel_rfl) (fun j w' hj h => h hj) (fun w' h _ => h) (fun _ _ _ h => h) (by rfl) (fun w' h => by obtain ⟨h1, h2⟩ := h; go_simp) S0 ?_
    simp only [Act.put, List.setIfInBounds_toArray, List.set_cons_zero, List.set_cons_succ]
    refine wpAnyT_take (i := 2) (d := some 11) (v := .pointer (some ⟨g, 0, none⟩)) [0, 9, 10, 11, 12] _ rfl rfl (by kernel_rfl) (by kernel_rfl) (by kernel_rfl) (by kernel_rfl) (by kernel_rfl) (fun j w' hj h => h hj) (fun w' h _ => h) (fun _ _ _ h => h) (by rfl) (fun w' h => by obtain ⟨h1, h2⟩ := h; go_simp) S0 ?_
    simp only [Act.put, List.setIfInBounds_toArray, List.set_cons_zero, List.set_cons_succ]
    refine wpAnyT_take (i := 3) (d := some 12) (v := .pointer (some ⟨g, 0, none⟩)) [0, 9, 10, 11, 12] _ rfl rfl (by kernel_rfl) (by kernel_rfl) (by kernel_rfl) (by kernel_rfl) (by kernel_rfl) (fun j w' hj h => h hj) (fun w' h _ => h) (fun _ _ _ h => h) (by rfl) (fun w' h => by obtain ⟨h1, h2⟩ := h; go_simp) S0 ?_
    simp only [Act.put, List.setIfInBounds_toArray, List.set_cons_zero, List.set_cons_succ]
    refine wpAnyT_take (i := 4) (d := some 13) (v := .slice A1 n1 c1) [0, 9, 10, 11, 12] _ rfl rfl (by kernel_rfl) (by kernel_rfl) (by kernel_rfl) (by kernel_rfl) (by kernel_rfl) (fun j w' hj h => h hj) (fun w' h _ => h) (fun _ _ _ h => h) (by rfl) (fun w' h => by obtain ⟨h1, h2⟩ := h; go_simp) S0 ?_
    simp only [Act.put, List.setIfInBounds_toArray, List.set_cons_zero, List.set_cons_succ]
    refine wpAnyT_take (i := 5) (d := some 14) (v := .pointer (some ⟨g, 0, none⟩)) [0, 9, 10, 11, 12] _ rfl rfl (by kernel_rfl) (by kernel_rfl) (by kernel_rfl) (by kernel_rfl) (by kernel_rfl) (fun j w' hj h => h hj) (fun w' h _ => h) (fun _ _ _ h => h) (by rfl) (fun w' h => by obtain ⟨h1, h2⟩ := h; go_simp) S0 ?_
    simp only [Act.put, List.setIfInBounds_toArray, List.set_cons_zero, List.set_cons_succ]
    refine wpAnyT_take (i := 6) (d := some 15) (v := .pointer (some ⟨g, 0, none⟩)) [0, 9, 10, 11, 12] _ rfl rfl (by kernel_rfl) (by kernel_rfl) (by kernel_rfl) (by kernel_rfl) (by kernel_rfl) (fun j w' hj h => h hj) (fun w' h _ => h) (fun _ _ _ h => h) (by rfl) (fun w' h => by obtain ⟨h1, h2⟩ := h; go_simp) S0 ?_
    simp only [Act.put, List.setIfInBounds_toArray, List.set_cons_zero, List.set_cons_succ]
    refine wpAnyT_take (i := 7) (d := some 16) (v := .pointer (some ⟨g, 1, none⟩)) [0, 9, 10, 11, 12] _ rfl rfl (by kernel_rfl) (by kernel_rfl) (by kernel_rfl) (by kernel_rfl) (by kernel_rfl) (fun j w' hj h => h hj) (fun w' h _ => h) (fun _ _ _ h => h) (by rfl) (fun w' h => by obtain ⟨h1, h2⟩ := h; go_simp) S0 ?_
    simp only [Act.put, List.setIfInBounds_toArray, List.set_cons_zero, List.set_cons_succ]
    refine wpAnyT_take (i := 8) (d := some 17) (v := .slice A2 n2 c2) [0, 9, 10, 11, 12] _ rfl rfl (by kernel_rfl) (by kernel_rfl) (by kernel_rfl) (by kernel_rfl) (by kernel_rfl) (fun j w' hj h => h hj) (fun w' h _ => h) (fun _ _ _ h => h) (by rfl) (fun w' h => by obtain ⟨h1, h2⟩ := h; go_simp) S0 ?_
    simp only [Act.put, List.setIfInBounds_toArray, List.set_cons_zero, List.set_cons_succ]
    refine wpAnyT_one (i := 9) (by kernel_rfl) rfl (by rfl) ?_
    refine wp_bytes (some 18) rfl (.tmp 13) (.tmp 17) rfl rfl H.out.kept rfl H.out.rest.bytes (by omega) (Nat.zero_le _) ?_
    intro A6 c6 w6 ho6 hg6 hat6
    refine ⟨fun h => absurd (by simp) h, ?_⟩
    simp only [Act.put, List.setIfInBounds_toArray, List.set_cons_zero, List.set_cons_succ]
    refine wpAnyT_one (i := 10) (by kernel_rfl) rfl (by rfl) ?_
    refine wp_value (some 19) rfl (v := .pointer (some ⟨g, 0, none⟩)) (w1 := w6) (by go_simp) ⟨fun h => absurd (by simp) h, ?_⟩
    simp only [Act.put, List.setIfInBounds_toArray, List.set_cons_zero, List.set_cons_succ]
    refine wpAnyT_one (i := 11) (by kernel_rfl) rfl (by rfl) ?_
    refine wp_value (some 20) rfl (v := .pointer (some ⟨g, 0, none⟩)) (w1 := w6) (by go_simp) ⟨fun h => absurd (by simp) h, ?_⟩
    simp only [Act.put, List.setIfInBounds_toArray, List.set_cons_zero, List.set_cons_succ]
    refine wpAnyT_one (i := 12) (by kernel_rfl) rfl (by rfl) ?_
    have hb6 := H.out.blk_grown (by decide) hg6 (fun r e => .inl e)
    have f1 : w6.cell? ⟨g, 0, none⟩ = some (.slice A1 n1 c1) := by rw [cell_of_row _ _ _ _ _ _ hb6]; rfl
    have f2 : w6.frozen? ⟨g, 0, none⟩ = false := by simp [World.frozen?, hb6]
    refine wp_skips none rfl (w1 := w6.setCell ⟨g, 0, none⟩ (.slice A6 (n1 + n2) c6)) (by go_simp) ⟨fun h => absurd (by simp) h, ?_⟩
    refine wpAnyT_done (by kernel_rfl) ?_ _
    have hJ := H.out.setKept (by decide) hg6 (fun r e => e) ho6 (by rcases hat6 with e | e; exact .inl e; exact .inr (fun k hk => by rw [e] at hk; cases hk; exact Nat.le_refl _))
    have hK : Kept C w (w6.setCell ⟨g, 0, none⟩ (.slice A6 (n1 + n2) c6)) := ((HK2.out.drewN 1).grown hg6 (fun k e _ => hin k e)).setCell (fun _ => hin0) _
    have hsz := (grownBy_cell w6 g 0 (.slice A6 (n1 + n2) c6)).size
    clear f1 f2 hb6 hg6 ho6 hat6
    generalize w6.setCell ⟨g, 0, none⟩ (.slice A6 (n1 + n2) c6) = w7 at *
    have q1 := hJ.cell1
    have z1 := hJ.frozen 1
    have HK := Lib.hid (hK.setCell (p := ⟨g, 1, none⟩) (fun _ => hin0) (.slice none 0 0))
    have hJ8 := hJ.noRest (by decide)
    have hsz8 : w7.heap.size ≤ (w7.setCell ⟨g, 1, none⟩ (.slice none 0 0)).heap.size := by simp
    have HJ8 := Lib.hid (hJ8.more (D := since w C _) (fun k hk => hk.imp id (fun ⟨a, b⟩ => ⟨Nat.le_trans hs2 a, Nat.lt_of_lt_of_le b (Nat.le_trans hsz hsz8)⟩)) (fun k hk => hk.elim (fun hc => hJ8.bd k (.inl hc)) (fun h => h.2)))
    rw [hkept, hrest] at HJ8
    clear hJ hK hJ8 hsz hsz8
    go_wp2
    go_ret
    exact ⟨by rw [HA.out]; rfl, ⟨_, _, _, _, _, _, by rw [HA.out]; exact HJ8.out⟩, HK.out⟩
  · have h61 : J.eff.1 = 61 := by
      unfold JV.eff at h1 ⊢
      split <;> (try rfl)
      split <;> (try rfl)
      split <;> simp_all
    have HA := Lib.hid (show J.sync = J.eff by unfold JV.sync; rw [if_neg h1])
    have H61 := Lib.hid h61
    have HJ2 := Lib.hid hJ2
    rw [h61]
    clear h1 h61 hJ2
    go_wp2
    go_ret
    exact ⟨by rw [HA.out, H61.out]; rfl, ⟨_, _, _, _, _, _, by rw [HA.out]; exact HJ2.out.to_ w⟩, HK2.out⟩
end Go.Proofs.YtddcfgbembjbhaaDoor
