/- The document's journal: Crash, Open: walked. -/
import Derived.Test.YtddcfgbembjbhaaDoorJour12
namespace Go.Proofs.YtddcfgbembjbhaaDoor
open Go.RowKit
set_option linter.unusedVariables false
set_option linter.unusedSimpArgs false
set_option maxRecDepth 100000 in
set_option maxHeartbeats 2000000 in
theorem refCrashLow (w : World) (g : Nat) (C : Nat → Prop) (J : JV) (A1 : Option Addr) (n1 c1 : Nat) (A2 : Option Addr) (n2 c2 : Nat) (h : JAt w 85 g C J A1 n1 c1 A2 n2 c2) (hn : n1 + n2 ≤ 140737488355328) (keep : Int) (hk : keep < 0) :
    Calls Tryd.prog 71 #[.pointer (some ⟨g, 0, none⟩), .int .i64 keep] w fun e w' => (∃ v, e = .returned v) ∧ JIn w' 85 g (since w C w') ⟨J.kept ++ J.rest.take 0, [], -1, true⟩ ∧ Kept C w w' := by
  have e1 := h.cell1
  have H := Lib.hid (h.later (w' := w.drew) (Below.refl _ w).drew)
  have S0 : w.drew.cell? ⟨g, 0, none⟩ = some (.slice A1 n1 c1) ∧ w.drew.cell? ⟨g, 1, none⟩ = some (.slice A2 n2 c2) := ⟨h.cell0, h.cell1⟩
  have hin := h.in1
  have hin0 := h.in0
  have hac : n2 ≤ c2 := h.rest.cap
  have hac' : 0 ≤ c2 := by omega
  have hA8 : Option.map (fun x => x.add 0) A2 = A2 := by
    rcases h.rest.form with ⟨rfl, _⟩ | ⟨g, rfl, _⟩
    · rfl
    · show some ((⟨g, 0, none⟩ : Addr).add 0) = _
      have : (⟨g, 0, none⟩ : Addr).add 0 = ⟨g, 0, none⟩ := by unfold Addr.add; split <;> simp_all
      rw [this]
  have hif : (if c2 = 0 then A2 else A2) = A2 := by split <;> rfl
  have HBT := Lib.hid (H.out.rest.bytes.take (k := 0) (by omega))
  clear h
  go_enter Tryd.func71, Tryd.ntmps71
  go_wp2
  refine region_T (fun i w' => i ∉ [0, 11, 12, 13, 14] → w'.cell? ⟨g, 0, none⟩ = some (.slice A1 n1 c1) ∧ w'.cell? ⟨g, 1, none⟩ = some (.slice A2 n2 c2)) (by kernel_rfl) ?_
  simp only [List.size_toArray, List.length_cons, List.length_nil, Nat.reduceAdd, Array.replicate_succ, Array.replicate_zero]
  refine wpAnyT_take (i := 0) (d := some 13) (v := .pointer (some ⟨g, 0, none⟩)) [] (fun _ => True) rfl rfl (by kernel_rfl) (by kernel_rfl) (by kernel_rfl) (by kernel_rfl) (by kernel_rfl) (fun _ _ _ _ => trivial) (fun w' _ h' => absurd (by simp) h') (fun _ _ _ h => h) (by rfl) (fun w' h => by go_simp) trivial ?_
  simp only [Act.put, List.setIfInBounds_toArray, List.set_cons_zero, List.set_cons_succ]
  refine wpAnyT_take (i := 1) (d := some 14) (v := .pointer (some ⟨g, 0, none⟩)) [0, 11, 12, 13, 14] _ rfl rfl (by kernel_rfl) (by kernel_rfl) (by kernel_rfl) (by kernel_rfl) (by kernel_rfl) (fun j w' hj h => h hj) (fun w' h _ => h) (fun _ _ _ h => h) (by rfl) (fun w' h => by obtain ⟨h1, h2⟩ := h; go_simp) S0 ?_
  simp only [Act.put, List.setIfInBounds_toArray, List.set_cons_zero, List.set_cons_succ]
  refine wpAnyT_take (i := 2) (d := some 15) (v := .pointer (some ⟨g, 0, none⟩)) [0, 11, 12, 13, 14] _ rfl rfl (by kernel_rfl) (by kernel_rfl) (by kernel_rfl) (by kernel_rfl) (by kernel_rfl) (fun j w' hj h => h hj) (fun w' h _ => h) (fun _ _ _ h => h) (by rfl) (fun w' h => by obtain ⟨h1, h2⟩ := h; go_simp) S0 ?_
  simp only [Act.put, List.setIfInBounds_toArray, List.set_cons_zero, List.set_cons_succ]
  refine wpAnyT_take (i := 3) (d := some 16) (v := .pointer (some ⟨g, 0, none⟩)) [0, 11, 12, 13, 14] _ rfl rfl (by kernel_rfl) (by kernel_rfl) (by kernel_rfl) (by kernel_rfl) (by kernel_rfl) (fun j w' hj h => h hj) (fun w' h _ => h) (fun _ _ _ h => h) (by rfl) (fun w' h => by obtain ⟨h1, h2⟩ := h; go_simp) S0 ?_
  simp only [Act.put, List.setIfInBounds_toArray, List.set_cons_zero, List.set_cons_succ]
  refine wpAnyT_take (i := 4) (d := some 17) (v := .slice A1 n1 c1) [0, 11, 12, 13, 14] _ rfl rfl (by kernel_rfl) (by kernel_rfl) (by kernel_rfl) (by kernel_rfl) (by kernel_rfl) (fun j w' hj h => h hj) (fun w' h _ => h) (fun _ _ _ h => h) (by rfl) (fun w' h => by obtain ⟨h1, h2⟩ := h; go_simp) S0 ?_
  simp only [Act.put, List.setIfInBounds_toArray, List.set_cons_zero, List.set_cons_succ]
  refine wpAnyT_take (i := 5) (d := some 18) (v := .pointer (some ⟨g, 0, none⟩)) [0, 11, 12, 13, 14] _ rfl rfl (by kernel_rfl) (by kernel_rfl) (by kernel_rfl) (by kernel_rfl) (by kernel_rfl) (fun j w' hj h => h hj) (fun w' h _ => h) (fun _ _ _ h => h) (by rfl) (fun w' h => by obtain ⟨h1, h2⟩ := h; go_simp) S0 ?_
  simp only [Act.put, List.setIfInBounds_toArray, List.set_cons_zero, List.set_cons_succ]
  refine wpAnyT_take (i := 6) (d := some 19) (v := .pointer (some ⟨g, 0, none⟩)) [0, 11, 12, 13, 14] _ rfl rfl (by kernel_rfl) (by kernel_rfl) (by kernel_rfl) (by kernel_rfl) (by kernel_rfl) (fun j w' hj h => h hj) (fun w' h _ => h) (fun _ _ _ h => h) (by rfl) (fun w' h => by obtain ⟨h1, h2⟩ := h; go_simp) S0 ?_
  simp only [Act.put, List.setIfInBounds_toArray, List.set_cons_zero, List.set_cons_succ]
  refine wpAnyT_take (i := 7) (d := some 20) (v := .pointer (some ⟨g, 1, none⟩)) [0, 11, 12, 13, 14] _ rfl rfl (by kernel_rfl) (by kernel_rfl) (by kernel_rfl) (by kernel_rfl) (by kernel_rfl) (fun j w' hj h => h hj) (fun w' h _ => h) (fun _ _ _ h => h) (by rfl) (fun w' h => by obtain ⟨h1, h2⟩ := h; go_simp) S0 ?_
  simp only [Act.put, List.setIfInBounds_toArray, List.set_cons_zero, List.set_cons_succ]
  refine wpAnyT_take (i := 8) (d := some 21) (v := .slice A2 n2 c2) [0, 11, 12, 13, 14] _ rfl rfl (by kernel_rfl) (by kernel_rfl) (by kernel_rfl) (by kernel_rfl) (by kernel_rfl) (fun j w' hj h => h hj) (fun w' h _ => h) (fun _ _ _ h => h) (by rfl) (fun w' h => by obtain ⟨h1, h2⟩ := h; go_simp) S0 ?_
  simp only [Act.put, List.setIfInBounds_toArray, List.set_cons_zero, List.set_cons_succ]
  refine wpAnyT_take (i := 9) (d := some 22) (v := .int .i64 0) [0, 11, 12, 13, 14] _ rfl rfl (by kernel_rfl) (by kernel_rfl) (by kernel_rfl) (by kernel_rfl) (by kernel_rfl) (fun j w' hj h => h hj) (fun w' h _ => h) (fun _ _ _ h => h) (by rfl) (fun w' h => by obtain ⟨h1, h2⟩ := h; go_simp) S0 ?_
  simp only [Act.put, List.setIfInBounds_toArray, List.set_cons_zero, List.set_cons_succ]
  refine wpAnyT_take (i := 10) (d := some 23) (v := .slice A2 0 c2) [0, 11, 12, 13, 14] _ rfl rfl (by kernel_rfl) (by kernel_rfl) (by kernel_rfl) (by kernel_rfl) (by kernel_rfl) (fun j w' hj h => h hj) (fun w' h _ => h) (fun _ _ _ h => h) (by rfl) (fun w' h => by obtain ⟨h1, h2⟩ := h; go_simp) S0 ?_
  simp only [Act.put, List.setIfInBounds_toArray, List.set_cons_zero, List.set_cons_succ]
  refine wpAnyT_one (i := 11) (by kernel_rfl) rfl (by rfl) ?_
  refine wp_bytes (some 24) rfl (.tmp 17) (.tmp 23) rfl rfl H.out.kept rfl HBT.out (by omega) (Nat.zero_le _) ?_
  intro A6 c6 w6 ho6 hg6 hat6
  refine ⟨fun h => absurd (by simp) h, ?_⟩
  simp only [Act.put, List.setIfInBounds_toArray, List.set_cons_zero, List.set_cons_succ]
  refine wpAnyT_one (i := 12) (by kernel_rfl) rfl (by rfl) ?_
  refine wp_value (some 25) rfl (v := .pointer (some ⟨g, 0, none⟩)) (w1 := w6) (by go_simp) ⟨fun h => absurd (by simp) h, ?_⟩
  simp only [Act.put, List.setIfInBounds_toArray, List.set_cons_zero, List.set_cons_succ]
  refine wpAnyT_one (i := 13) (by kernel_rfl) rfl (by rfl) ?_
  refine wp_value (some 26) rfl (v := .pointer (some ⟨g, 0, none⟩)) (w1 := w6) (by go_simp) ⟨fun h => absurd (by simp) h, ?_⟩
  simp only [Act.put, List.setIfInBounds_toArray, List.set_cons_zero, List.set_cons_succ]
  refine wpAnyT_one (i := 14) (by kernel_rfl) rfl (by rfl) ?_
  have hb6 := H.out.blk_grown (by decide) hg6 (fun r e => .inl e)
  have f1 : w6.cell? ⟨g, 0, none⟩ = some (.slice A1 n1 c1) := by rw [cell_of_row _ _ _ _ _ _ hb6]; rfl
  have f2 : w6.frozen? ⟨g, 0, none⟩ = false := by simp [World.frozen?, hb6]
  refine wp_skips none rfl (w1 := w6.setCell ⟨g, 0, none⟩ (.slice A6 (n1 + 0) c6)) (by go_simp) ⟨fun h => absurd (by simp) h, ?_⟩
  refine wpAnyT_done (by kernel_rfl) ?_ _
  have hJ := H.out.setKept (by decide) hg6 (fun r e => e) ho6 (by rcases hat6 with e | e; exact .inl e; exact .inr (fun k hk => by rw [e] at hk; cases hk; exact Nat.le_refl _))
  have hK : Kept C w (w6.setCell ⟨g, 0, none⟩ (.slice A6 (n1 + 0) c6)) := (((Kept.refl C w).drewN 1).grown hg6 (fun k e _ => hin k e)).setCell (fun _ => hin0) _
  have hsz := (grownBy_cell w6 g 0 (.slice A6 (n1 + 0) c6)).size
  clear f1 f2 hb6 hg6 ho6 hat6 e1
  generalize w6.setCell ⟨g, 0, none⟩ (.slice A6 (n1 + 0) c6) = w7 at *
  have q1 := hJ.cell1
  have q2 := hJ.cell2
  have q3 := hJ.cell3
  have z1 := hJ.frozen 1
  have z2 := hJ.frozen 2
  have z3 := hJ.frozen 3
  have hJ8 := ((hJ.noRest (by decide)).setFuse (by decide) (-1)).setDown (by decide) true
  have HK := Lib.hid (((hK.setCell (p := ⟨g, 1, none⟩) (fun _ => hin0) (.slice none 0 0)).setCell (p := ⟨g, 2, none⟩) (fun _ => hin0) (.int .i64 (-1))).setCell (p := ⟨g, 3, none⟩) (fun _ => hin0) (.bool true))
  have hsz8 : w7.heap.size ≤ (((w7.setCell ⟨g, 1, none⟩ (.slice none 0 0)).setCell ⟨g, 2, none⟩ (.int .i64 (-1))).setCell ⟨g, 3, none⟩ (.bool true)).heap.size := by simp
  have HJ8 := Lib.hid (hJ8.more (D := since w C _) (fun k hk => hk.imp id (fun ⟨a, b⟩ => ⟨a, Nat.lt_of_lt_of_le b (Nat.le_trans hsz hsz8)⟩)) (fun k hk => hk.elim (fun hc => hJ8.bd k (.inl hc)) (fun h => h.2)))
  clear hJ hK hJ8 hsz hsz8
  go_wp2
  go_end0
  exact ⟨⟨_, rfl⟩, ⟨_, _, _, _, _, _, by have := HJ8.out; rw [List.take_zero, List.append_nil] at this; exact this⟩, HK.out⟩
set_option maxRecDepth 100000 in
set_option maxHeartbeats 2000000 in
theorem refCrashIn (w : World) (g : Nat) (C : Nat → Prop) (J : JV) (A1 : Option Addr) (n1 c1 : Nat) (A2 : Option Addr) (n2 c2 : Nat) (h : JAt w 85 g C J A1 n1 c1 A2 n2 c2) (hn : n1 + n2 ≤ 140737488355328) (kk : Nat) (hk : kk ≤ n2) :
    Calls Tryd.prog 71 #[.pointer (some ⟨g, 0, none⟩), .int .i64 (kk : Int)] w fun e w' => (∃ v, e = .returned v) ∧ JIn w' 85 g (since w C w') ⟨J.kept ++ J.rest.take kk, [], -1, true⟩ ∧ Kept C w w' := by
  have e1 := h.cell1
  have H := Lib.hid (h.later (w' := w.drew) (Below.refl _ w).drew)
  have S0 : w.drew.cell? ⟨g, 0, none⟩ = some (.slice A1 n1 c1) ∧ w.drew.cell? ⟨g, 1, none⟩ = some (.slice A2 n2 c2) := ⟨h.cell0, h.cell1⟩
  have hin := h.in1
  have hin0 := h.in0
  have hac : n2 ≤ c2 := h.rest.cap
  have hac' : kk ≤ c2 := by omega
  have hA8 : Option.map (fun x => x.add 0) A2 = A2 := by
    rcases h.rest.form with ⟨rfl, _⟩ | ⟨g, rfl, _⟩
    · rfl
    · show some ((⟨g, 0, none⟩ : Addr).add 0) = _
      have : (⟨g, 0, none⟩ : Addr).add 0 = ⟨g, 0, none⟩ := by unfold Addr.add; split <;> simp_all
      rw [this]
  have hif : (if c2 = 0 then A2 else A2) = A2 := by split <;> rfl
  have HBT := Lib.hid (H.out.rest.bytes.take (k := kk) (by omega))
  clear h
  go_enter Tryd.func71, Tryd.ntmps71
  go_wp2
  refine region_T (fun i w' => i ∉ [0, 11, 12, 13, 14] → w'.cell? ⟨g, 0, none⟩ = some (.slice A1 n1 c1) ∧ w'.cell? ⟨g, 1, none⟩ = some (.slice A2 n2 c2)) (by kernel_rfl) ?_
  simp only [List.size_toArray, List.length_cons, List.length_nil, Nat.reduceAdd, Array.replicate_succ, Array.replicate_zero]
  refine wpAnyT_take (i := 0) (d := some 13) (v := .pointer (some ⟨g, 0, none⟩)) [] (fun _ => True) rfl rfl (by kernel_rfl) (by kernel_rfl) (by kernel_rfl) (by kernel_rfl) (by kernel_rfl) (fun _ _ _ _ => trivial) (fun w' _ h' => absurd (by simp) h') (fun _ _ _ h => h) (by rfl) (fun w' h => by go_simp) trivial ?_
  simp only [Act.put, List.setIfInBounds_toArray, List.set_cons_zero, List.set_cons_succ]
  refine wpAnyT_take (i := 1) (d := some 14) (v := .pointer (some ⟨g, 0, none⟩)) [0, 11, 12, 13, 14] _ rfl rfl (by kernel_rfl) (by kernel_rfl) (by kernel_rfl) (by kernel_rfl) (by kernel_rfl) (fun j w' hj h => h hj) (fun w' h _ => h) (fun _ _ _ h => h) (by rfl) (fun w' h => by obtain ⟨h1, h2⟩ := h; go_simp) S0 ?_
  simp only [Act.put, List.setIfInBounds_toArray, List.set_cons_zero, List.set_cons_succ]
  refine wpAnyT_take (i := 2) (d := some 15) (v := .pointer (some ⟨g, 0, none⟩)) [0, 11, 12, 13, 14] _ rfl rfl (by kernel_rfl) (by kernel_rfl) (by kernel_rfl) (by kernel_rfl) (by kernel_rfl) (fun j w' hj h => h hj) (fun w' h _ => h) (fun _ _ _ h => h) (by rfl) (fun w' h => by obtain ⟨h1, h2⟩ := h; go_simp) S0 ?_
  simp only [Act.put, List.setIfInBounds_toArray, List.set_cons_zero, List.set_cons_succ]
  refine wpAnyT_take (i := 3) (d := some 16) (v := .pointer (some ⟨g, 0, none⟩)) [0, 11, 12, 13, 14] _ rfl rfl (by kernel_rfl) (by kernel_rfl) (by kernel_rfl) (by kernel_rfl) (by kernel_rfl) (fun j w' hj h => h hj) (fun w' h _ => h) (fun _ _ _ h => h) (by rfl) (fun w' h => by obtain ⟨h1, h2⟩ := h; go_simp) S0 ?_
  simp only [Act.put, List.setIfInBounds_toArray, List.set_cons_zero, List.set_cons_succ]
  refine wpAnyT_take (i := 4) (d := some 17) (v := .slice A1 n1 c1) [0, 11, 12, 13, 14] _ rfl rfl (by kernel_rfl) (by kernel_rfl) (by kernel_rfl) (by kernel_rfl) (by kernel_rfl) (fun j w' hj h => h hj) (fun w' h _ => h) (fun _ _ _ h => h) (by rfl) (fun w' h => by obtain ⟨h1, h2⟩ := h; go_simp) S0 ?_
  simp only [Act.put, List.setIfInBounds_toArray, List.set_cons_zero, List.set_cons_succ]
  refine wpAnyT_take (i := 5) (d := some 18) (v := .pointer (some ⟨g, 0, none⟩)) [0, 11, 12, 13, 14] _ rfl rfl (by kernel_rfl) (by kernel_rfl) (by kernel_rfl) (by kernel_rfl) (by kernel_rfl) (fun j w' hj h => h hj) (fun w' h _ => h) (fun _ _ _ h => h) (by rfl) (fun w' h => by obtain ⟨h1, h2⟩ := h; go_simp) S0 ?_
  simp only [Act.put, List.setIfInBounds_toArray, List.set_cons_zero, List.set_cons_succ]
  refine wpAnyT_take (i := 6) (d := some 19) (v := .pointer (some ⟨g, 0, none⟩)) [0, 11, 12, 13, 14] _ rfl rfl (by kernel_rfl) (by kernel_rfl) (by kernel_rfl) (by kernel_rfl) (by kernel_rfl) (fun j w' hj h => h hj) (fun w' h _ => h) (fun _ _ _ h => h) (by rfl) (fun w' h => by obtain ⟨h1, h2⟩ := h; go_simp) S0 ?_
  simp only [Act.put, List.setIfInBounds_toArray, List.set_cons_zero, List.set_cons_succ]
  refine wpAnyT_take (i := 7) (d := some 20) (v := .pointer (some ⟨g, 1, none⟩)) [0, 11, 12, 13, 14] _ rfl rfl (by kernel_rfl) (by kernel_rfl) (by kernel_rfl) (by kernel_rfl) (by kernel_rfl) (fun j w' hj h => h hj) (fun w' h _ => h) (fun _ _ _ h => h) (by rfl) (fun w' h => by obtain ⟨h1, h2⟩ := h; go_simp) S0 ?_
  simp only [Act.put, List.setIfInBounds_toArray, List.set_cons_zero, List.set_cons_succ]
  refine wpAnyT_take (i := 8) (d := some 21) (v := .slice A2 n2 c2) [0, 11, 12, 13, 14] _ rfl rfl (by kernel_rfl) (by kernel_rfl) (by kernel_rfl) (by kernel_rfl) (by kernel_rfl) (fun j w' hj h => h hj) (fun w' h _ => h) (fun _ _ _ h => h) (by rfl) (fun w' h => by obtain ⟨h1, h2⟩ := h; go_simp) S0 ?_
  simp only [Act.put, List.setIfInBounds_toArray, List.set_cons_zero, List.set_cons_succ]
  refine wpAnyT_take (i := 9) (d := some 22) (v := .int .i64 (kk : Int)) [0, 11, 12, 13, 14] _ rfl rfl (by kernel_rfl) (by kernel_rfl) (by kernel_rfl) (by kernel_rfl) (by kernel_rfl) (fun j w' hj h => h hj) (fun w' h _ => h) (fun _ _ _ h => h) (by rfl) (fun w' h => by obtain ⟨h1, h2⟩ := h; go_simp) S0 ?_
  simp only [Act.put, List.setIfInBounds_toArray, List.set_cons_zero, List.set_cons_succ]
  refine wpAnyT_take (i := 10) (d := some 23) (v := .slice A2 kk c2) [0, 11, 12, 13, 14] _ rfl rfl (by kernel_rfl) (by kernel_rfl) (by kernel_rfl) (by kernel_rfl) (by kernel_rfl) (fun j w' hj h => h hj) (fun w' h _ => h) (fun _ _ _ h => h) (by rfl) (fun w' h => by obtain ⟨h1, h2⟩ := h; go_simp) S0 ?_
  simp only [Act.put, List.setIfInBounds_toArray, List.set_cons_zero, List.set_cons_succ]
  refine wpAnyT_one (i := 11) (by kernel_rfl) rfl (by rfl) ?_
  refine wp_bytes (some 24) rfl (.tmp 17) (.tmp 23) rfl rfl H.out.kept rfl HBT.out (by omega) (Nat.zero_le _) ?_
  intro A6 c6 w6 ho6 hg6 hat6
  refine ⟨fun h => absurd (by simp) h, ?_⟩
  simp only [Act.put, List.setIfInBounds_toArray, List.set_cons_zero, List.set_cons_succ]
  refine wpAnyT_one (i := 12) (by kernel_rfl) rfl (by rfl) ?_
  refine wp_value (some 25) rfl (v := .pointer (some ⟨g, 0, none⟩)) (w1 := w6) (by go_simp) ⟨fun h => absurd (by simp) h, ?_⟩
  simp only [Act.put, List.setIfInBounds_toArray, List.set_cons_zero, List.set_cons_succ]
  refine wpAnyT_one (i := 13) (by kernel_rfl) rfl (by rfl) ?_
  refine wp_value (some 26) rfl (v := .pointer (some ⟨g, 0, none⟩)) (w1 := w6) (by go_simp) ⟨fun h => absurd (by simp) h, ?_⟩
  simp only [Act.put, List.setIfInBounds_toArray, List.set_cons_zero, List.set_cons_succ]
  refine wpAnyT_one (i := 14) (by kernel_rfl) rfl (by rfl) ?_
  have hb6 := H.out.blk_grown (by decide) hg6 (fun r e => .inl e)
  have f1 : w6.cell? ⟨g, 0, none⟩ = some (.slice A1 n1 c1) := by rw [cell_of_row _ _ _ _ _ _ hb6]; rfl
  have f2 : w6.frozen? ⟨g, 0, none⟩ = false := by simp [World.frozen?, hb6]
  refine wp_skips none rfl (w1 := w6.setCell ⟨g, 0, none⟩ (.slice A6 (n1 + kk) c6)) (by go_simp) ⟨fun h => absurd (by simp) h, ?_⟩
  refine wpAnyT_done (by kernel_rfl) ?_ _
  have hJ := H.out.setKept (by decide) hg6 (fun r e => e) ho6 (by rcases hat6 with e | e; exact .inl e; exact .inr (fun k hk => by rw [e] at hk; cases hk; exact Nat.le_refl _))
  have hK : Kept C w (w6.setCell ⟨g, 0, none⟩ (.slice A6 (n1 + kk) c6)) := (((Kept.refl C w).drewN 1).grown hg6 (fun k e _ => hin k e)).setCell (fun _ => hin0) _
  have hsz := (grownBy_cell w6 g 0 (.slice A6 (n1 + kk) c6)).size
  clear f1 f2 hb6 hg6 ho6 hat6 e1
  generalize w6.setCell ⟨g, 0, none⟩ (.slice A6 (n1 + kk) c6) = w7 at *
  have q1 := hJ.cell1
  have q2 := hJ.cell2
  have q3 := hJ.cell3
  have z1 := hJ.frozen 1
  have z2 := hJ.frozen 2
  have z3 := hJ.frozen 3
  have hJ8 := ((hJ.noRest (by decide)).setFuse (by decide) (-1)).setDown (by decide) true
  have HK := Lib.hid (((hK.setCell (p := ⟨g, 1, none⟩) (fun _ => hin0) (.slice none 0 0)).setCell (p := ⟨g, 2, none⟩) (fun _ => hin0) (.int .i64 (-1))).setCell (p := ⟨g, 3, none⟩) (fun _ => hin0) (.bool true))
  have hsz8 : w7.heap.size ≤ (((w7.setCell ⟨g, 1, none⟩ (.slice none 0 0)).setCell ⟨g, 2, none⟩ (.int .i64 (-1))).setCell ⟨g, 3, none⟩ (.bool true)).heap.size := by simp
  have HJ8 := Lib.hid (hJ8.more (D := since w C _) (fun k hk => hk.imp id (fun ⟨a, b⟩ => ⟨a, Nat.lt_of_lt_of_le b (Nat.le_trans hsz hsz8)⟩)) (fun k hk => hk.elim (fun hc => hJ8.bd k (.inl hc)) (fun h => h.2)))
  clear hJ hK hJ8 hsz hsz8
  go_wp2
  go_end0
  exact ⟨⟨_, rfl⟩, ⟨_, _, _, _, _, _, by exact HJ8.out⟩, HK.out⟩
set_option maxRecDepth 100000 in
set_option maxHeartbeats 2000000 in
theorem refCrashOver (w : World) (g : Nat) (C : Nat → Prop) (J : JV) (A1 : Option Addr) (n1 c1 : Nat) (A2 : Option Addr) (n2 c2 : Nat) (h : JAt w 85 g C J A1 n1 c1 A2 n2 c2) (hn : n1 + n2 ≤ 140737488355328) (keep : Int) (hk : (n2 : Int) < keep) :
    Calls Tryd.prog 71 #[.pointer (some ⟨g, 0, none⟩), .int .i64 keep] w fun e w' => (∃ v, e = .returned v) ∧ JIn w' 85 g (since w C w') ⟨J.kept ++ J.rest.take n2, [], -1, true⟩ ∧ Kept C w w' := by
  have e1 := h.cell1
  have H := Lib.hid (h.later (w' := w.drew) (Below.refl _ w).drew)
  have S0 : w.drew.cell? ⟨g, 0, none⟩ = some (.slice A1 n1 c1) ∧ w.drew.cell? ⟨g, 1, none⟩ = some (.slice A2 n2 c2) := ⟨h.cell0, h.cell1⟩
  have hin := h.in1
  have hin0 := h.in0
  have hac : n2 ≤ c2 := h.rest.cap
  have hac' : n2 ≤ c2 := by omega
  have hA8 : Option.map (fun x => x.add 0) A2 = A2 := by
    rcases h.rest.form with ⟨rfl, _⟩ | ⟨g, rfl, _⟩
    · rfl
    · show some ((⟨g, 0, none⟩ : Addr).add 0) = _
      have : (⟨g, 0, none⟩ : Addr).add 0 = ⟨g, 0, none⟩ := by unfold Addr.add; split <;> simp_all
      rw [this]
  have hif : (if c2 = 0 then A2 else A2) = A2 := by split <;> rfl
  have HBT := Lib.hid (H.out.rest.bytes.take (k := n2) (by omega))
  clear h
  go_enter Tryd.func71, Tryd.ntmps71
  go_wp2
  refine region_T (fun i w' => i ∉ [0, 11, 12, 13, 14] → w'.cell? ⟨g, 0, none⟩ = some (.slice A1 n1 c1) ∧ w'.cell? ⟨g, 1, none⟩ = some (.slice A2 n2 c2)) (by kernel_rfl) ?_
  simp only [List.size_toArray, List.length_cons, List.length_nil, Nat.reduceAdd, Array.replicate_succ, Array.replicate_zero]
  refine wpAnyT_take (i := 0) (d := some 13) (v := .pointer (some ⟨g, 0, none⟩)) [] (fun _ => True) rfl rfl (by kernel_rfl) (by kernel_rfl) (by kernel_rfl) (by kernel_rfl) (by kernel_rfl) (fun _ _ _ _ => trivial) (fun w' _ h' => absurd (by simp) h') (fun _ _ _ h => h) (by rfl) (fun w' h => by go_simp) trivial ?_
  simp only [Act.put, List.setIfInBounds_toArray, List.set_cons_zero, List.set_cons_succ]
  refine wpAnyT_take (i := 1) (d := some 14) (v := .pointer (some ⟨g, 0, none⟩)) [0, 11, 12, 13, 14] _ rfl rfl (by kernel_rfl) (by kernel_rfl) (by kernel_rfl) (by kernel_rfl) (by kernel_rfl) (fun j w' hj h => h hj) (fun w' h _ => h) (fun _ _ _ h => h) (by rfl) (fun w' h => by obtain ⟨h1, h2⟩ := h; go_simp) S0 ?_
  simp only [Act.put, List.setIfInBounds_toArray, List.set_cons_zero, List.set_cons_succ]
  refine wpAnyT_take (i := 2) (d := some 15) (v := .pointer (some ⟨g, 0, none⟩)) [0, 11, 12, 13, 14] _ rfl rfl (by kernel_rfl) (by kernel_rfl) (by kernel_rfl) (by kernel_rfl) (by kernel_rfl) (fun j w' hj h => h hj) (fun w' h _ => h) (fun _ _ _ h => h) (by rfl) (fun w' h => by obtain ⟨h1, h2⟩ := h; go_simp) S0 ?_
  simp only [Act.put, List.setIfInBounds_toArray, List.set_cons_zero, List.set_cons_succ]
  refine wpAnyT_take (i := 3) (d := some 16) (v := .pointer (some ⟨g, 0, none⟩)) [0, 11, 12, 13, 14] _ rfl rfl (by kernel_rfl) (by kernel_rfl) (by kernel_rfl) (by kernel_rfl) (by kernel_rfl) (fun j w' hj h => h hj) (fun w' h _ => h) (fun _ _ _ h => h) (by rfl) (fun w' h => by obtain ⟨h1, h2⟩ := h; go_simp) S0 ?_
  simp only [Act.put, List.setIfInBounds_toArray, List.set_cons_zero, List.set_cons_succ]
  refine wpAnyT_take (i := 4) (d := some 17) (v := .slice A1 n1 c1) [0, 11, 12, 13, 14] _ rfl rfl (by kernel_rfl) (by kernel_rfl) (by kernel_rfl) (by kernel_rfl) (by kernel_rfl) (fun j w' hj h => h hj) (fun w' h _ => h) (fun _ _ _ h => h) (by rfl) (fun w' h => by obtain ⟨h1, h2⟩ := h; go_simp) S0 ?_
  simp only [Act.put, List.setIfInBounds_toArray, List.set_cons_zero, List.set_cons_succ]
  refine wpAnyT_take (i := 5) (d := some 18) (v := .pointer (some ⟨g, 0, none⟩)) [0, 11, 12, 13, 14] _ rfl rfl (by kernel_rfl) (by kernel_rfl) (by kernel_rfl) (by kernel_rfl) (by kernel_rfl) (fun j w' hj h => h hj) (fun w' h _ => h) (fun _ _ _ h => h) (by rfl) (fun w' h => by obtain ⟨h1, h2⟩ := h; go_simp) S0 ?_
  simp only [Act.put, List.setIfInBounds_toArray, List.set_cons_zero, List.set_cons_succ]
  refine wpAnyT_take (i := 6) (d := some 19) (v := .pointer (some ⟨g, 0, none⟩)) [0, 11, 12, 13, 14] _ rfl rfl (by kernel_rfl) (by kernel_rfl) (by kernel_rfl) (by kernel_rfl) (by kernel_rfl) (fun j w' hj h => h hj) (fun w' h _ => h) (fun _ _ _ h => h) (by rfl) (fun w' h => by obtain ⟨h1, h2⟩ := h; go_simp) S0 ?_
  simp only [Act.put, List.setIfInBounds_toArray, List.set_cons_zero, List.set_cons_succ]
  refine wpAnyT_take (i := 7) (d := some 20) (v := .pointer (some ⟨g, 1, none⟩)) [0, 11, 12, 13, 14] _ rfl rfl (by kernel_rfl) (by kernel_rfl) (by kernel_rfl) (by kernel_rfl) (by kernel_rfl) (fun j w' hj h => h hj) (fun w' h _ => h) (fun _ _ _ h => h) (by rfl) (fun w' h => by obtain ⟨h1, h2⟩ := h; go_simp) S0 ?_
  simp only [Act.put, List.setIfInBounds_toArray, List.set_cons_zero, List.set_cons_succ]
  refine wpAnyT_take (i := 8) (d := some 21) (v := .slice A2 n2 c2) [0, 11, 12, 13, 14] _ rfl rfl (by kernel_rfl) (by kernel_rfl) (by kernel_rfl) (by kernel_rfl) (by kernel_rfl) (fun j w' hj h => h hj) (fun w' h _ => h) (fun _ _ _ h => h) (by rfl) (fun w' h => by obtain ⟨h1, h2⟩ := h; go_simp) S0 ?_
  simp only [Act.put, List.setIfInBounds_toArray, List.set_cons_zero, List.set_cons_succ]
  refine wpAnyT_take (i := 9) (d := some 22) (v := .int .i64 (n2 : Int)) [0, 11, 12, 13, 14] _ rfl rfl (by kernel_rfl) (by kernel_rfl) (by kernel_rfl) (by kernel_rfl) (by kernel_rfl) (fun j w' hj h => h hj) (fun w' h _ => h) (fun _ _ _ h => h) (by rfl) (fun w' h => by obtain ⟨h1, h2⟩ := h; go_simp) S0 ?_
  simp only [Act.put, List.setIfInBounds_toArray, List.set_cons_zero, List.set_cons_succ]
  refine wpAnyT_take (i := 10) (d := some 23) (v := .slice A2 n2 c2) [0, 11, 12, 13, 14] _ rfl rfl (by kernel_rfl) (by kernel_rfl) (by kernel_rfl) (by kernel_rfl) (by kernel_rfl) (fun j w' hj h => h hj) (fun w' h _ => h) (fun _ _ _ h => h) (by rfl) (fun w' h => by obtain ⟨h1, h2⟩ := h; go_simp) S0 ?_
  simp only [Act.put, List.setIfInBounds_toArray, List.set_cons_zero, List.set_cons_succ]
  refine wpAnyT_one (i := 11) (by kernel_rfl) rfl (by rfl) ?_
  refine wp_bytes (some 24) rfl (.tmp 17) (.tmp 23) rfl rfl H.out.kept rfl HBT.out (by omega) (Nat.zero_le _) ?_
  intro A6 c6 w6 ho6 hg6 hat6
  refine ⟨fun h => absurd (by simp) h, ?_⟩
  simp only [Act.put, List.setIfInBounds_toArray, List.set_cons_zero, List.set_cons_succ]
  refine wpAnyT_one (i := 12) (by kernel_rfl) rfl (by rfl) ?_
  refine wp_value (some 25) rfl (v := .pointer (some ⟨g, 0, none⟩)) (w1 := w6) (by go_simp) ⟨fun h => absurd (by simp) h, ?_⟩
  simp only [Act.put, List.setIfInBounds_toArray, List.set_cons_zero, List.set_cons_succ]
  refine wpAnyT_one (i := 13) (by kernel_rfl) rfl (by rfl) ?_
  refine wp_value (some 26) rfl (v := .pointer (some ⟨g, 0, none⟩)) (w1 := w6) (by go_simp) ⟨fun h => absurd (by simp) h, ?_⟩
  simp only [Act.put, List.setIfInBounds_toArray, List.set_cons_zero, List.set_cons_succ]
  refine wpAnyT_one (i := 14) (by kernel_rfl) rfl (by rfl) ?_
  have hb6 := H.out.blk_grown (by decide) hg6 (fun r e => .inl e)
  have f1 : w6.cell? ⟨g, 0, none⟩ = some (.slice A1 n1 c1) := by rw [cell_of_row _ _ _ _ _ _ hb6]; rfl
  have f2 : w6.frozen? ⟨g, 0, none⟩ = false := by simp [World.frozen?, hb6]
  refine wp_skips none rfl (w1 := w6.setCell ⟨g, 0, none⟩ (.slice A6 (n1 + n2) c6)) (by go_simp) ⟨fun h => absurd (by simp) h, ?_⟩
  refine wpAnyT_done (by kernel_rfl) ?_ _
  have hJ := H.out.setKept (by decide) hg6 (fun r e => e) ho6 (by rcases hat6 with e | e; exact .inl e; exact .inr (fun k hk => by rw [e] at hk; cases hk; exact Nat.le_refl _))
  have hK : Kept C w (w6.setCell ⟨g, 0, none⟩ (.slice A6 (n1 + n2) c6)) := (((Kept.refl C w).drewN 1).grown hg6 (fun k e _ => hin k e)).setCell (fun _ => hin0) _
  have hsz := (grownBy_cell w6 g 0 (.slice A6 (n1 + n2) c6)).size
  clear f1 f2 hb6 hg6 ho6 hat6 e1
  generalize w6.setCell ⟨g, 0, none⟩ (.slice A6 (n1 + n2) c6) = w7 at *
  have q1 := hJ.cell1
  have q2 := hJ.cell2
  have q3 := hJ.cell3
  have z1 := hJ.frozen 1
  have z2 := hJ.frozen 2
  have z3 := hJ.frozen 3
  have hJ8 := ((hJ.noRest (by decide)).setFuse (by decide) (-1)).setDown (by decide) true
  have HK := Lib.hid (((hK.setCell (p := ⟨g, 1, none⟩) (fun _ => hin0) (.slice none 0 0)).setCell (p := ⟨g, 2, none⟩) (fun _ => hin0) (.int .i64 (-1))).setCell (p := ⟨g, 3, none⟩) (fun _ => hin0) (.bool true))
  have hsz8 : w7.heap.size ≤ (((w7.setCell ⟨g, 1, none⟩ (.slice none 0 0)).setCell ⟨g, 2, none⟩ (.int .i64 (-1))).setCell ⟨g, 3, none⟩ (.bool true)).heap.size := by simp
  have HJ8 := Lib.hid (hJ8.more (D := since w C _) (fun k hk => hk.imp id (fun ⟨a, b⟩ => ⟨a, Nat.lt_of_lt_of_le b (Nat.le_trans hsz hsz8)⟩)) (fun k hk => hk.elim (fun hc => hJ8.bd k (.inl hc)) (fun h => h.2)))
  clear hJ hK hJ8 hsz hsz8
  go_wp2
  go_end0
  exact ⟨⟨_, rfl⟩, ⟨_, _, _, _, _, _, by exact HJ8.out⟩, HK.out⟩
theorem refCrash (w : World) (g : Nat) (C : Nat → Prop) (J : JV) (h : JIn w 85 g C J) (hn : J.kept.length + J.rest.length ≤ 140737488355328) (keep : Int) :
    Calls Tryd.prog 71 #[.pointer (some ⟨g, 0, none⟩), .int .i64 keep] w fun e w' => (∃ v, e = .returned v) ∧ JIn w' 85 g (since w C w') (J.crash keep) ∧ Kept C w w' := by
  obtain ⟨A1, n1, c1, A2, n2, c2, h⟩ := h
  have hl1 := h.kept.len
  have hl2 := h.rest.len
  unfold JV.crash
  by_cases hk : keep < 0
  · have e : keepN keep J = 0 := by unfold keepN; omega
    rw [e]
    exact refCrashLow w g C J A1 n1 c1 A2 n2 c2 h (by omega) keep hk
  · obtain ⟨kk, rfl⟩ := Int.eq_ofNat_of_zero_le (show 0 ≤ keep by omega)
    by_cases hi : kk ≤ n2
    · have e : keepN (kk : Int) J = kk := by unfold keepN; omega
      rw [e]
      exact refCrashIn w g C J A1 n1 c1 A2 n2 c2 h (by omega) kk hi
    · have e : keepN (kk : Int) J = n2 := by unfold keepN; omega
      rw [e]
      exact refCrashOver w g C J A1 n1 c1 A2 n2 c2 h (by omega) kk (by omega)
set_option maxRecDepth 100000 in
set_option maxHeartbeats 2000000 in
theorem refOpen (w : World) (g : Nat) (C : Nat → Prop) (J : JV) (h : JIn w 85 g C J) (hn : J.kept.length ≤ 40000000000000) (hf : -9223372036854775808 ≤ J.fuse ∧ J.fuse ≤ 9223372036854775807) :
    Calls Tryd.prog 72 #[.pointer (some ⟨g, 0, none⟩)] w fun e w' => ∃ w3 AK nK cK AB nB cB, e = .returned (.tuple #[.slice AK nK cK, .slice AB nB cB, .int .i64 J.open.1.2]) ∧ Kept C w w3 ∧ Coll w3 w.heap.size AK nK cK (J.open.1.1.map (·.1)) AB nB cB (J.open.1.1.map (·.2)) ∧ Kept C w3 w' ∧ JIn w' 85 g (since w3 C w') J.open.2 := by
  obtain ⟨A1, n1, c1, A2, n2, c2, h⟩ := h
  have hin := h.in1
  have hin0 := h.in0
  have e1 := h.cell1
  have z1 := h.frozen 1
  have hJ1 := h.noRest (by decide)
  have e3 := hJ1.cell3
  have z3 := hJ1.frozen 3
  have hJ2 := hJ1.setDown (by decide) false
  have HK2 := Lib.hid ((((Kept.refl C w).setCell (p := ⟨g, 1, none⟩) (fun _ => hin0) (.slice none 0 0)).setCell (p := ⟨g, 3, none⟩) (fun _ => hin0) (.bool false)))
  have e0 := hJ2.cell0
  have hl1 := hJ2.kept.len
  have hac : ∀ m, m ≤ n1 → m ≤ c1 := fun m hm => Nat.le_trans hm hJ2.kept.cap
  have hA8 : Option.map (fun x => x.add 0) A1 = A1 := by
    rcases hJ2.kept.form with ⟨rfl, _⟩ | ⟨g, rfl, _⟩
    · rfl
    · show some ((⟨g, 0, none⟩ : Addr).add 0) = _
      have : (⟨g, 0, none⟩ : Addr).add 0 = ⟨g, 0, none⟩ := by unfold Addr.add; split <;> simp_all
      rw [this]
  have hif : (if c1 = 0 then A1 else A1) = A1 := by split <;> rfl
  have HAC := Lib.hid hac
  have H2 := Lib.hid hJ2
  have hz2 := HK2.out.size
  clear h hJ1 hJ2 hac
  simp only at H2 hl1
  go_enter Tryd.func72, Tryd.ntmps72
  go_wp2_with fail
  clear e1 z1 e3 z3
  generalize (w.setCell ⟨g, 1, none⟩ (.slice none 0 0)).setCell ⟨g, 3, none⟩ (.bool false) = w3 at *
  refine (refAll A1 n1 c1 J.kept w3.heap.size w3 H2.out.kept.bytes (Nat.le_refl _) (by omega) H2.out.kept.cap).mono ?_
  rintro e w4 ⟨AK, nK, cK, AB, nB, cB, rfl, hC4, hb4⟩
  have HC4 := Lib.hid (hC4.lower hz2)
  have HK4 := Lib.hid (HK2.out.trans (Kept.of_below hb4 : Kept C w3 w4) (fun _ _ hc => hc))
  have hz4 := hb4.size
  have H4 := Lib.hid (H2.out.later hb4)
  have e4 := H4.out.cell0
  have hfl : flen (frames J.kept) ≤ n1 := by have := (frames_are J.kept).2.2.1; omega
  clear hC4 hb4 e0
  generalize hfr : frames J.kept = fr at *
  generalize hm : flen fr = m at *
  have hlo : m < n1 → (JV.up J).eff.1 = 0 → J.open = ((fr, 0), { J.up.eff.2 with kept := J.kept.take m }) := fun h1 h2 => by unfold JV.open; rw [hfr, hm, if_pos (by omega), if_pos h2]
  have hlo' : m < n1 → (JV.up J).eff.1 = 61 → J.open = (([], 61), J.up.eff.2) := fun h1 h2 => by unfold JV.open; rw [hfr, hm, if_pos (by omega), if_neg (by rw [h2]; decide), h2]
  have hlo2 : ¬ m < n1 → J.open = ((fr, 0), J.up) := fun h1 => by unfold JV.open; rw [hfr, hm, if_neg (by omega)]
  have HO1 := Lib.hid hlo
  have HO2 := Lib.hid hlo'
  have HO3 := Lib.hid hlo2
  clear hlo hlo' hlo2 hfr hm
  have hmc : m ≤ c1 := HAC.out m hfl
  by_cases hlt : m < n1
  rotate_left
  · have HN := Lib.hid hlt
    go_wp2
    refine bodyPost_ret (results_tmp3' rfl _ _ _) rfl ?_
    rw [HO3.out HN.out]
    exact ⟨w4, AK, nK, cK, AB, nB, cB, rfl, HK4.out, HC4.out, Kept.refl _ _, _, _, _, _, _, _, H4.out.to_ w4⟩
  · go_wp2_with fail
    refine (refEffect w4 g C J.up A1 n1 c1 none 0 0 H4.out hf).mono ?_
    rintro e w5 ⟨rfl, hJ5, hK5⟩
    have HK5 := Lib.hid ((Kept.refl C w4).trans hK5 (fun i _ e => e ▸ hin0))
    have hs5 := HK5.out.size
    clear hK5
    have hcase : J.up.eff.1 = 0 ∨ J.up.eff.1 = 61 := by
      unfold JV.eff
      split
      · exact .inr rfl
      · split
        · exact .inr rfl
        · split <;> exact .inl rfl
    rcases hcase with h1 | h1
    · have HA := Lib.hid (HO1.out hlt h1)
      have hkept := (eff_rest J.up).2
      have hup : J.up.kept = J.kept := rfl
      rw [hup] at hkept
      have hk5 := hJ5.kept
      rw [hkept] at hk5
      have HJ5 := Lib.hid hJ5
      have e5 := (hJ5.later ((Below.refl w5.heap.size w5).alloc (Nat.le_refl _) (.cells #[] 5))).cell0
      have HB5 := Lib.hid ((hk5.alloc (.cells #[] 5)).bytes.take (k := m) hfl)
      have HE5 := Lib.hid (OwnB.empty w5 0 w5.heap.size rfl (Nat.zero_le _))
      have HJ5' := Lib.hid (hJ5.later ((Below.refl w5.heap.size w5).alloc (Nat.le_refl _) (.cells #[] 5)))
      have HK5' := Lib.hid (HK5.out.alloc (.cells #[] 5))
      have hbd5 := hJ5.bd
      have HBD := Lib.hid (show ∀ q, C q → q ≠ w5.heap.size from fun q hq e => by have := hbd5 q hq; omega)
      have hgne : g ≠ w5.heap.size := HBD.out g hin0
      rw [h1]
      clear h1 hk5 hJ5 hkept hup hbd5
      go_wp2_with (at_builtin; refine wpList_append_bytes rfl (.tmp 37) (.tmp 43) rfl rfl HE5.out rfl HB5.out (by omega) (Nat.zero_le _) ?_; intro A6 c6 w6 ho6 hg6 hat6; simp only [Nat.zero_add, List.nil_append] at ho6; have hne6 : some g ≠ some w5.heap.size := (fun e => hgne (Option.some.inj e)); have hb6 : w6.heap[g]? = (w5.alloc (.cells #[] 5)).heap[g]? := hg6.block g (HJ5'.out.lt) (by simpa using hne6); have hb7 := hb6.trans HJ5'.out.blk; have f1 : w6.cell? ⟨g, 0, none⟩ = some (.slice A1 n1 c1) := (by rw [cell_of_row _ _ _ _ _ _ hb7]; rfl); have f2 : w6.frozen? ⟨g, 0, none⟩ = false := (by simp [World.frozen?, hb7]); have HO6 := Lib.hid ho6; have HG6 := Lib.hid hg6; have HAT6 := Lib.hid hat6; clear ho6 hg6 hat6 hb6 hb7)
      refine bodyPost_ret (results_tmp3' rfl _ _ _) rfl ?_
      rw [HA.out]
      have hg : w5.grownBy w6 none := ⟨HG6.out.os, HG6.out.tape, HG6.out.output, Nat.le_trans (by simp) HG6.out.size, fun k hk _ => (HG6.out.block k (by simp; omega) (by simp; omega)).trans (Below.heap_alloc w5 _ k hk)⟩
      have hat : ∀ k, A6.map (·.block) = some k → w5.heap.size ≤ k := fun k hk => by
        rcases HAT6.out with e | e
        · rw [e] at hk; simp at hk; omega
        · rw [e] at hk; simp at hk; omega
      have hJ := HJ5.out.setKept (by decide) hg (fun r e => by cases e) HO6.out (.inr hat)
      have hsz := (grownBy_cell w6 g 0 (.slice A6 m c6)).size
      have hK := (HK5.out.grown hg (fun k e _ => by cases e)).setCell (p := ⟨g, 0, none⟩) (fun _ => hin0) (.slice A6 m c6)
      exact ⟨w4, AK, nK, cK, AB, nB, cB, rfl, HK4.out, HC4.out, hK, _, _, _, _, _, _, hJ.more (fun k hk => hk.imp id (fun ⟨a, b⟩ => ⟨Nat.le_trans hs5 a, Nat.lt_of_lt_of_le b hsz⟩)) (fun k hk => hk.elim (fun hc => hJ.bd k (.inl hc)) (fun h => h.2))⟩
    · have HA := Lib.hid (HO2.out hlt h1)
      have HJ5 := Lib.hid (hJ5.to_ w4)
      rw [h1]
      clear h1 hJ5
      go_wp2
      refine bodyPost_ret (results_tmp3' rfl _ _ _) rfl ?_
      rw [HA.out]
      exact ⟨w4, none, 0, 0, none, 0, 0, rfl, HK4.out, Coll.nil _ _, HK5.out, _, _, _, _, _, _, HJ5.out⟩
end Go.Proofs.YtddcfgbembjbhaaDoor
