/- Journals: Crash: walked. -/
import Derived.Test.YtddcfgbembjbhaaDoorJour7
namespace Go.Proofs.YtddcfgbembjbhaaDoor
open Go.RowKit
set_option linter.unusedVariables false
set_option linter.unusedSimpArgs false
set_option maxRecDepth 100000 in
set_option maxHeartbeats 2000000 in
theorem crashLow (w : World) (g : Nat) (C : Nat → Prop) (J : JV) (A1 : Option Addr) (n1 c1 : Nat) (A2 : Option Addr) (n2 c2 : Nat) (h : JAt w 99 g C J A1 n1 c1 A2 n2 c2) (hn : n1 + n2 ≤ 140737488355328) (keep : Int) (hk : keep < 0) :
    Calls Tryd.prog 58 #[.pointer (some ⟨g, 0, none⟩), .int .i64 keep] w fun e w' => (∃ v, e = .returned v) ∧ JIn w' 99 g (since w C w') ⟨J.kept ++ J.rest.take 0, [], -1, true⟩ ∧ Kept C w w' := by
  have e1 := h.cell1
  have H := Lib.hid (h.later (w' := w.drew) (Below.refl _ w).drew)
  have S0 : w.drew.cell? ⟨g, 0, none⟩ = some (.slice A1 n1 c1) ∧ w.drew.cell? ⟨g, 1, none⟩ = some (.slice A2 n2 c2) := ⟨h.cell0, h.cell1⟩
  have hin := h.in1
  have hin0 := h.in0
  have hac : n2 ≤ c2 := h.rest.cap
  have hac' : 0 ≤ c2 := by omega
  have hA8 : Option.map (fun x => x.add 0) A2 = A2 := by
    rcases h.rest.form with ⟨rfl, _⟩ | ⟨g, rfl, _⟩
    · rfl
    · show some ((⟨g, 0, none⟩ : Addr).add 0) = _
      have : (⟨g, 0, none⟩ : Addr).add 0 = ⟨g, 0, none⟩ := by unfold Addr.add; split <;> simp_all
      rw [this]
  have hif : (if c2 = 0 then A2 else A2) = A2 := by split <;> rfl
  have HBT := Lib.hid (H.out.rest.bytes.take (k := 0) (by omega))
  clear h
  go_enter Tryd.func58, Tryd.ntmps58
  go_wp2
  refine region_T (fun i w' => i ∉ [0, 11, 12, 13, 14] → w'.cell? ⟨g, 0, none⟩ = some (.slice A1 n1 c1) ∧ w'.cell? ⟨g, 1, none⟩ = some (.slice A2 n2 c2)) (by kernel_rfl) ?_
  simp only [List.size_toArray, List.length_cons, List.length_nil, Nat.reduceAdd, Array.replicate_succ, Array.replicate_zero]
  refine wpAnyT_take (i := 0) (d := some 12) (v := .pointer (some ⟨g, 0, none⟩)) [] (fun _ => True) rfl rfl (by kernel_rfl) (by kernel_rfl) (by kernel_rfl) (by kernel_rfl) (by kernel_rfl) (fun _ _ _ _ => trivial) (fun w' _ h' => absurd (by simp) h') (fun _ _ _ h => h) (by rfl) (fun w' h => by go_simp) trivial ?_
  simp only [Act.put, List.setIfInBounds_toArray, List.set_cons_zero, List.set_cons_succ]
  refine wpAnyT_take (i := 1) (d := some 13) (v := .pointer (some ⟨g, 0, none⟩)) [0, 11, 12, 13, 14] _ rfl rfl (by kernel_rfl) (by kernel_rfl) (by kernel_rfl) (by kernel_rfl) (by kernel_rfl) (fun j w' hj h => h hj) (fun w' h _ => h) (fun _ _ _ h => h) (by rfl) (fun w' h => by obtain ⟨h1, h2⟩ := h; go_simp) S0 ?_
  simp only [Act.put, List.setIfInBounds_toArray, List.set_cons_zero, List.set_cons_succ]
  refine wpAnyT_take (i := 2) (d := some 14) (v := .pointer (some ⟨g, 0, none⟩)) [0, 11, 12, 13, 14] _ rfl rfl (by kernel_rfl) (by kernel_rfl) (by kernel_rfl) (by kernel_rfl) (by kernel_rfl) (fun j w' hj h => h hj) (fun w' h _ => h) (fun _ _ _ h => h) (by rfl) (fun w' h => by obtain ⟨h1, h2⟩ := h; go_simp) S0 ?_
  simp only [Act.put, List.setIfInBounds_toArray, List.set_cons_zero, List.set_cons_succ]
  refine wpAnyT_take (i := 3) (d := some 15) (v := .pointer (some ⟨g, 0, none⟩)) [0, 11, 12, 13, 14] _ rfl rfl (by kernel_rfl) (by kernel_rfl) (by kernel_rfl) (by kernel_rfl) (by kernel_rfl) (fun j w' hj h => h hj) (fun w' h _ => h) (fun _ _ _ h => h) (by rfl) (fun w' h => by obtain ⟨h1, h2⟩ := h; go_simp) S0 ?_
  simp only [Act.put, List.setIfInBounds_toArray, List.set_cons_zero, List.set_cons_succ]
  refine wpAnyT_take (i := 4) (d := some 16) (v := .slice A1 n1 c1) [0, 11, 12, 13, 14] _ rfl rfl (by kernel_rfl) (by kernel_rfl) (by kernel_rfl) (by kernel_rfl) (by kernel_rfl) (fun j w' hj h => h hj) (fun w' h _ => h) (fun _ _ _ h => h) (by rfl) (fun w' h => by obtain ⟨h1, h2⟩ := h; go_simp) S0 ?_
  simp only [Act.put, List.setIfInBounds_toArray, List.set_cons_zero, List.set_cons_succ]
  refine wpAnyT_take (i := 5) (d := some 17) (v := .pointer (some ⟨g, 0, none⟩)) [0, 11, 12, 13, 14] _ rfl rfl (by kernel_rfl) (by kernel_rfl) (by kernel_rfl) (by kernel_rfl) (by kernel_rfl) (fun j w' hj h => h hj) (fun w' h _ => h) (fun _ _ _ h => h) (by rfl) (fun w' h => by obtain ⟨h1, h2⟩ := h; go_simp) S0 ?_
  simp only [Act.put, List.setIfInBounds_toArray, List.set_cons_zero, List.set_cons_succ]
  refine wpAnyT_take (i := 6) (d := some 18) (v := .pointer (some ⟨g, 0, none⟩)) [0, 11, 12, 13, 14] _ rfl rfl (by kernel_rfl) (by kernel_rfl) (by kernel_rfl) (by kernel_rfl) (by kernel_rfl) (fun j w' hj h => h hj) (fun w' h _ => h) (fun _ _ _ h => h) (by rfl) (fun w' h => by obtain ⟨h1, h2⟩ := h; go_simp) S0 ?_
  simp only [Act.put, List.setIfInBounds_toArray, List.set_cons_zero, List.set_cons_succ]
  refine wpAnyT_take (i := 7) (d := some 19) (v := .pointer (some ⟨g, 1, none⟩)) [0, 11, 12, 13, 14] _ rfl rfl (by kernel_rfl) (by kernel_rfl) (by kernel_rfl) (by kernel_rfl) (by kernel_rfl) (fun j w' hj h => h hj) (fun w' h _ => h) (fun _ _ _ h => h) (by rfl) (fun w' h => by obtain ⟨h1, h2⟩ := h; go_simp) S0 ?_
  simp only [Act.put, List.setIfInBounds_toArray, List.set_cons_zero, List.set_cons_succ]
  refine wpAnyT_take (i := 8) (d := some 20) (v := .slice A2 n2 c2) [0, 11, 12, 13, 14] _ rfl rfl (by kernel_rfl) (by kernel_rfl) (by kernel_rfl) (by kernel_rfl) (by kernel_rfl) (fun j w' hj h => h hj) (fun w' h _ => h) (fun _ _ _ h => h) (by rfl) (fun w' h => by obtain ⟨h1, h2⟩ := h; go_simp) S0 ?_
  simp only [Act.put, List.setIfInBounds_toArray, List.set_cons_zero, List.set_cons_succ]
  refine wpAnyT_take (i := 9) (d := some 21) (v := .int .i64 0) [0, 11, 12, 13, 14] _ rfl rfl (by kernel_rfl) (by kernel_rfl) (by kernel_rfl) (by kernel_rfl) (by kernel_rfl) (fun j w' hj h => h hj) (fun w' h _ => h) (fun _ _ _ h => h) (by rfl) (fun w' h => by obtain ⟨h1, h2⟩ := h; go_simp) S0 ?_
  simp only [Act.put, List.setIfInBounds_toArray, List.set_cons_zero, List.set_cons_succ]
  refine wpAnyT_take (i := 10) (d := some 22) (v := .slice A2 0 c2) [0, 11, 12, 13, 14] _ rfl rfl (by kernel_rfl) (by kernel_rfl) (by kernel_rfl) (by kernel_rfl) (by kernel_rfl) (fun j w' hj h => h hj) (fun w' h _ => h) (fun _ _ _ h => h) (by rfl) (fun w' h => by obtain ⟨h1, h2⟩ := h; go_simp) S0 ?_
  simp only [Act.put, List.setIfInBounds_toArray, List.set_cons_zero, List.set_cons_succ]
  refine wpAnyT_one (i := 11) (by kernel_rfl) rfl (by rfl) ?_
  refine wp_bytes (some 23) rfl (.tmp 16) (.tmp 22) rfl rfl H.out.kept rfl HBT.out (by omega) (Nat.zero_le _) ?_
  intro A6 c6 w6 ho6 hg6 hat6
  refine ⟨fun h => absurd (by simp) h, ?_⟩
  simp only [Act.put, List.setIfInBounds_toArray, List.set_cons_zero, List.set_cons_succ]
  refine wpAnyT_one (i := 12) (by kernel_rfl) rfl (by rfl) ?_
  refine wp_value (some 24) rfl (v := .pointer (some ⟨g, 0, none⟩)) (w1 := w6) (by go_simp) ⟨fun h => absurd (by simp) h, ?_⟩
  simp only [Act.put, List.setIfInBounds_toArray, List.set_cons_zero, List.set_cons_succ]
  refine wpAnyT_one (i := 13) (by kernel_rfl) rfl (by rfl) ?_
  refine wp_value (some 25) rfl (v := .pointer (some ⟨g, 0, none⟩)) (w1 := w6) (by go_simp) ⟨fun h => absurd (by simp) h, ?_⟩
  simp only [Act.put, List.setIfInBounds_toArray, List.set_cons_zero, List.set_cons_succ]
  refine wpAnyT_one (i := 14) (by kernel_rfl) rfl (by rfl) ?_
  have hb6 := H.out.blk_grown (by decide) hg6 (fun r e => .inl e)
  have f1 : w6.cell? ⟨g, 0, none⟩ = some (.slice A1 n1 c1) := by rw [cell_of_row _ _ _ _ _ _ hb6]; rfl
  have f2 : w6.frozen? ⟨g, 0, none⟩ = false := by simp [World.frozen?, hb6]
  refine wp_skips none rfl (w1 := w6.setCell ⟨g, 0, none⟩ (.slice A6 (n1 + 0) c6)) (by go_simp) ⟨fun h => absurd (by simp) h, ?_⟩
  refine wpAnyT_done (by kernel_rfl) ?_ _
  have hJ := H.out.setKept (by decide) hg6 (fun r e => e) ho6 (by rcases hat6 with e | e; exact .inl e; exact .inr (fun k hk => by rw [e] at hk; cases hk; exact Nat.le_refl _))
  have hK : Kept C w (w6.setCell ⟨g, 0, none⟩ (.slice A6 (n1 + 0) c6)) := (((Kept.refl C w).drewN 1).grown hg6 (fun k e _ => hin k e)).setCell (fun _ => hin0) _
  have hsz := (grownBy_cell w6 g 0 (.slice A6 (n1 + 0) c6)).size
  clear f1 f2 hb6 hg6 ho6 hat6 e1
  generalize w6.setCell ⟨g, 0, none⟩ (.slice A6 (n1 + 0) c6) = w7 at *
  have q1 := hJ.cell1
  have q2 := hJ.cell2
  have q3 := hJ.cell3
  have z1 := hJ.frozen 1
  have z2 := hJ.frozen 2
  have z3 := hJ.frozen 3
  have hJ8 := ((hJ.noRest (by decide)).setFuse (by decide) (-1)).setDown (by decide) true
  have HK := Lib.hid (((hK.setCell (p := ⟨g, 1, none⟩) (fun _ => hin0) (.slice none 0 0)).setCell (p := ⟨g, 2, none⟩) (fun _ => hin0) (.int .i64 (-1))).setCell (p := ⟨g, 3, none⟩) (fun _ => hin0) (.bool true))
  have hsz8 : w7.heap.size ≤ (((w7.setCell ⟨g, 1, none⟩ (.slice none 0 0)).setCell ⟨g, 2, none⟩ (.int .i64 (-1))).setCell ⟨g, 3, none⟩ (.bool true)).heap.size := by simp
  have HJ8 := Lib.hid (hJ8.more (D := since w C _) (fun k hk => hk.imp id (fun ⟨a, b⟩ => ⟨a, Nat.lt_of_lt_of_le b (Nat.le_trans hsz hsz8)⟩)) (fun k hk => hk.elim (fun hc => hJ8.bd k (.inl hc)) (fun h => h.2)))
  clear hJ hK hJ8 hsz hsz8
  go_wp2
  go_end0
  exact ⟨⟨_, rfl⟩, ⟨_, _, _, _, _, _, by have := HJ8.out; rw [List.take_zero, List.append_nil] at this; exact this⟩, HK.out⟩
set_option maxRecDepth 100000 in
set_option maxHeartbeats 2000000 in
theorem crashIn (w : World) (g : Nat) (C : Nat → Prop) (J : JV) (A1 : Option Addr) (n1 c1 : Nat) (A2 : Option Addr) (n2 c2 : Nat) (h : JAt w 99 g C J A1 n1 c1 A2 n2 c2) (hn : n1 + n2 ≤ 140737488355328) (kk : Nat) (hk : kk ≤ n2) :
    Calls Tryd.prog 58 #[.pointer (some ⟨g, 0, none⟩), .int .i64 (kk : Int)] w fun e w' => (∃ v, e = .returned v) ∧ JIn w' 99 g (since w C w') ⟨J.kept ++ J.rest.take kk, [], -1, true⟩ ∧ Kept C w w' := by
  have e1 := h.cell1
  have H := Lib.hid (h.later (w' := w.drew) (Below.refl _ w).drew)
  have S0 : w.drew.cell? ⟨g, 0, none⟩ = some (.slice A1 n1 c1) ∧ w.drew.cell? ⟨g, 1, none⟩ = some (.slice A2 n2 c2) := ⟨h.cell0, h.cell1⟩
  have hin := h.in1
  have hin0 := h.in0
  have hac : n2 ≤ c2 := h.rest.cap
  have hac' : kk ≤ c2 := by omega
  have hA8 : Option.map (fun x => x.add 0) A2 = A2 := by
    rcases h.rest.form with ⟨rfl, _⟩ | ⟨g, rfl, _⟩
    · rfl
    · show some ((⟨g, 0, none⟩ : Addr).add 0) = _
      have : (⟨g, 0, none⟩ : Addr).add 0 = ⟨g, 0, none⟩ := by unfold Addr.add; split <;> simp_all
      rw [this]
  have hif : (if c2 = 0 then A2 else A2) = A2 := by split <;> rfl
  have HBT := Lib.hid (H.out.rest.bytes.take (k := kk) (by omega))
  clear h
  go_enter Tryd.func58, Tryd.ntmps58
  go_wp2
  refine region_T (fun i w' => i ∉ [0, 11, 12, 13, 14] → w'.cell? ⟨g, 0, none⟩ = some (.slice A1 n1 c1) ∧ w'.cell? ⟨g, 1, none⟩ = some (.slice A2 n2 c2)) (by kernel_rfl) ?_
  simp only [List.size_toArray, List.length_cons, List.length_nil, Nat.reduceAdd, Array.replicate_succ, Array.replicate_zero]
  refine wpAnyT_take (i := 0) (d := some 12) (v := .pointer (some ⟨g, 0, none⟩)) [] (fun _ => True) rfl rfl (by kernel_rfl) (by kernel_rfl) (by kernel_rfl) (by kernel_rfl) (by kernel_rfl) (fun _ _ _ _ => trivial) (fun w' _ h' => absurd (by simp) h') (fun _ _ _ h => h) (by rfl) (fun w' h => by go_simp) trivial ?_
  simp only [Act.put, List.setIfInBounds_toArray, List.set_cons_zero, List.set_cons_succ]
  refine wpAnyT_take (i := 1) (d := some 13) (v := .pointer (some ⟨g, 0, none⟩)) [0, 11, 12, 13, 14] _ rfl rfl (by kernel_rfl) (by kernel_rfl) (by kernel_rfl) (by kernel_rfl) (by kernel_rfl) (fun j w' hj h => h hj) (fun w' h _ => h) (fun _ _ _ h => h) (by rfl) (fun w' h => by obtain ⟨h1, h2⟩ := h; go_simp) S0 ?_
  simp only [Act.put, List.setIfInBounds_toArray, List.set_cons_zero, List.set_cons_succ]
  refine wpAnyT_take (i := 2) (d := some 14) (v := .pointer (some ⟨g, 0, none⟩)) [0, 11, 12, 13, 14] _ rfl rfl (by kernel_rfl) (by kernel_rfl) (by kernel_rfl) (by kernel_rfl) (by kernel_rfl) (fun j w' hj h => h hj) (fun w' h _ => h) (fun _ _ _ h => h) (by rfl) (fun w' h => by obtain ⟨h1, h2⟩ := h; go_simp) S0 ?_
  simp only [Act.put, List.setIfInBounds_toArray, List.set_cons_zero, List.set_cons_succ]
  refine wpAnyT_take (i := 3) (d := some 15) (v := .pointer (some ⟨g, 0, none⟩)) [0, 11, 12, 13, 14] _ rfl rfl (by kernel_rfl) (by kernel_rfl) (by kernel_rfl) (by kernel_rfl) (by kernel_rfl) (fun j w' hj h => h hj) (fun w' h _ => h) (fun _ _ _ h => h) (by rfl) (fun w' h => by obtain ⟨h1, h2⟩ := h; go_simp) S0 ?_
  simp only [Act.put, List.setIfInBounds_toArray, List.set_cons_zero, List.set_cons_succ]
  refine wpAnyT_take (i := 4) (d := some 16) (v := .slice A1 n1 c1) [0, 11, 12, 13, 14] _ rfl rfl (by kernel_rfl) (by kernel_rfl) (by kernel_rfl) (by kernel_rfl) (by kernel_rfl) (fun j w' hj h => h hj) (fun w' h _ => h) (fun _ _ _ h => h) (by rfl) (fun w' h => by obtain ⟨h1, h2⟩ := h; go_simp) S0 ?_
  simp only [Act.put, List.setIfInBounds_toArray, List.set_cons_zero, List.set_cons_succ]
  refine wpAnyT_take (i := 5) (d := some 17) (v := .pointer (some ⟨g, 0, none⟩)) [0, 11, 12, 13, 14] _ rfl rfl (by kernel_rfl) (by kernel_rfl) (by kernel_rfl) (by kernel_rfl) (by kernel_rfl) (fun j w' hj h => h hj) (fun w' h _ => h) (fun _ _ _ h => h) (by rfl) (fun w' h => by obtain ⟨h1, h2⟩ := h; go_simp) S0 ?_
  simp only [Act.put, List.setIfInBounds_toArray, List.set_cons_zero, List.set_cons_succ]
  refine wpAnyT_take (i := 6) (d := some 18) (v := .pointer (some ⟨g, 0, none⟩)) [0, 11, 12, 13, 14] _ rfl rfl (by kernel_rfl) (by kernel_rfl) (by kernel_rfl) (by kernel_rfl) (by kernel_rfl) (fun j w' hj h => h hj) (fun w' h _ => h) (fun _ _ _ h => h) (by rfl) (fun w' h => by obtain ⟨h1, h2⟩ := h; go_simp) S0 ?_
  simp only [Act.put, List.setIfInBounds_toArray, List.set_cons_zero, List.set_cons_succ]
  refine wpAnyT_take (i := 7) (d := some 19) (v := .pointer (some ⟨g, 1, none⟩)) [0, 11, 12, 13, 14] _ rfl rfl (by kernel_rfl) (by kernel_rfl) (by kernel_rfl) (by kernel_rfl) (by kernel_rfl) (fun j w' hj h => h hj) (fun w' h _ => h) (fun _ _ _ h => h) (by rfl) (fun w' h => by obtain ⟨h1, h2⟩ := h; go_simp) S0 ?_
  simp only [Act.put, List.setIfInBounds_toArray, List.set_cons_zero, List.set_cons_succ]
  refine wpAnyT_take (i := 8) (d := some 20) (v := .slice A2 n2 c2) [0, 11, 12, 13, 14] _ rfl rfl (by kernel_rfl) (by kernel_rfl) (by kernel_rfl) (by kernel_rfl) (by kernel_rfl) (fun j w' hj h => h hj) (fun w' h _ => h) (fun _ _ _ h => h) (by rfl) (fun w' h => by obtain ⟨h1, h2⟩ := h; go_simp) S0 ?_
  simp only [Act.put, List.setIfInBounds_toArray, List.set_cons_zero, List.set_cons_succ]
  refine wpAnyT_take (i := 9) (d := some 21) (v := .int .i64 (kk : Int)) [0, 11, 12, 13, 14] _ rfl rfl (by kernel_rfl) (by kernel_rfl) (by kernel_rfl) (by kernel_rfl) (by kernel_rfl) (fun j w' hj h => h hj) (fun w' h _ => h) (fun _ _ _ h => h) (by rfl) (fun w' h => by obtain ⟨h1, h2⟩ := h; go_simp) S0 ?_
  simp only [Act.put, List.setIfInBounds_toArray, List.set_cons_zero, List.set_cons_succ]
  refine wpAnyT_take (i := 10) (d := some 22) (v := .slice A2 kk c2) [0, 11, 12, 13, 14] _ rfl rfl (by kernel_rfl) (by kernel_rfl) (by kernel_rfl) (by kernel_rfl) (by kernel_rfl) (fun j w' hj h => h hj) (fun w' h _ => h) (fun _ _ _ h => h) (by rfl) (fun w' h => by obtain ⟨h1, h2⟩ := h; go_simp) S0 ?_
  simp only [Act.put, List.setIfInBounds_toArray, List.set_cons_zero, List.set_cons_succ]
  refine wpAnyT_one (i := 11) (by kernel_rfl) rfl (by rfl) ?_
  refine wp_bytes (some 23) rfl (.tmp 16) (.tmp 22) rfl rfl H.out.kept rfl HBT.out (by omega) (Nat.zero_le _) ?_
  intro A6 c6 w6 ho6 hg6 hat6
  refine ⟨fun h => absurd (by simp) h, ?_⟩
  simp only [Act.put, List.setIfInBounds_toArray, List.set_cons_zero, List.set_cons_succ]
  refine wpAnyT_one (i := 12) (by kernel_rfl) rfl (by rfl) ?_
  refine wp_value (some 24) rfl (v := .pointer (some ⟨g, 0, none⟩)) (w1 := w6) (by go_simp) ⟨fun h => absurd (by simp) h, ?_⟩
  simp only [Act.put, List.setIfInBounds_toArray, List.set_cons_zero, List.set_cons_succ]
  refine wpAnyT_one (i := 13) (by kernel_rfl) rfl (by rfl) ?_
  refine wp_value (some 25) rfl (v := .pointer (some ⟨g, 0, none⟩)) (w1 := w6) (by go_simp) ⟨fun h => absurd (by simp) h, ?_⟩
  simp only [Act.put, List.setIfInBounds_toArray, List.set_cons_zero, List.set_cons_succ]
  refine wpAnyT_one (i := 14) (by kernel_rfl) rfl (by rfl) ?_
  have hb6 := H.out.blk_grown (by decide) hg6 (fun r e => .inl e)
  have f1 : w6.cell? ⟨g, 0, none⟩ = some (.slice A1 n1 c1) := by rw [cell_of_row _ _ _ _ _ _ hb6]; rfl
  have f2 : w6.frozen? ⟨g, 0, none⟩ = false := by simp [World.frozen?, hb6]
  refine wp_skips none rfl (w1 := w6.setCell ⟨g, 0, none⟩ (.slice A6 (n1 + kk) c6)) (by go_simp) ⟨fun h => absurd (by simp) h, ?_⟩
  refine wpAnyT_done (by kernel_rfl) ?_ _
  have hJ := H.out.setKept (by decide) hg6 (fun r e => e) ho6 (by rcases hat6 with e | e; exact .inl e; exact .inr (fun k hk => by rw [e] at hk; cases hk; exact Nat.le_refl _))
  have hK : Kept C w (w6.setCell ⟨g, 0, none⟩ (.slice A6 (n1 + kk) c6)) := (((Kept.refl C w).drewN 1).grown hg6 (fun k e _ => hin k e)).setCell (fun _ => hin0) _
  have hsz := (grownBy_cell w6 g 0 (.slice A6 (n1 + kk) c6)).size
  clear f1 f2 hb6 hg6 ho6 hat6 e1
  generalize w6.setCell ⟨g, 0, none⟩ (.slice A6 (n1 + kk) c6) = w7 at *
  have q1 := hJ.cell1
  have q2 := hJ.cell2
  have q3 := hJ.cell3
  have z1 := hJ.frozen 1
  have z2 := hJ.frozen 2
  have z3 := hJ.frozen 3
  have hJ8 := ((hJ.noRest (by decide)).setFuse (by decide) (-1)).setDown (by decide) true
  have HK := Lib.hid (((hK.setCell (p := ⟨g, 1, none⟩) (fun _ => hin0) (.slice none 0 0)).setCell (p := ⟨g, 2, none⟩) (fun _ => hin0) (.int .i64 (-1))).setCell (p := ⟨g, 3, none⟩) (fun _ => hin0) (.bool true))
  have hsz8 : w7.heap.size ≤ (((w7.setCell ⟨g, 1, none⟩ (.slice none 0 0)).setCell ⟨g, 2, none⟩ (.int .i64 (-1))).setCell ⟨g, 3, none⟩ (.bool true)).heap.size := by simp
  have HJ8 := Lib.hid (hJ8.more (D := since w C _) (fun k hk => hk.imp id (fun ⟨a, b⟩ => ⟨a, Nat.lt_of_lt_of_le b (Nat.le_trans hsz hsz8)⟩)) (fun k hk => hk.elim (fun hc => hJ8.bd k (.inl hc)) (fun h => h.2)))
  clear hJ hK hJ8 hsz hsz8
  go_wp2
  go_end0
  exact ⟨⟨_, rfl⟩, ⟨_, _, _, _, _, _, by exact HJ8.out⟩, HK.out⟩
set_option maxRecDepth 100000 in
set_option maxHeartbeats 2000000 in
theorem crashOver (w : World) (g : Nat) (C : Nat → Prop) (J : JV) (A1 : Option Addr) (n1 c1 : Nat) (A2 : Option Addr) (n2 c2 : Nat) (h : JAt w 99 g C J A1 n1 c1 A2 n2 c2) (hn : n1 + n2 ≤ 140737488355328) (keep : Int) (hk : (n2 : Int) < keep) :
    Calls Tryd.prog 58 #[.pointer (some ⟨g, 0, none⟩), .int .i64 keep] w fun e w' => (∃ v, e = .returned v) ∧ JIn w' 99 g (since w C w') ⟨J.kept ++ J.rest.take n2, [], -1, true⟩ ∧ Kept C w w' := by
  have e1 := h.cell1
  have H := Lib.hid (h.later (w' := w.drew) (Below.refl _ w).drew)
  have S0 : w.drew.cell? ⟨g, 0, none⟩ = some (.slice A1 n1 c1) ∧ w.drew.cell? ⟨g, 1, none⟩ = some (.slice A2 n2 c2) := ⟨h.cell0, h.cell1⟩
  have hin := h.in1
  have hin0 := h.in0
  have hac : n2 ≤ c2 := h.rest.cap
  have hac' : n2 ≤ c2 := by omega
  have hA8 : Option.map (fun x => x.add 0) A2 = A2 := by
    rcases h.rest.form with ⟨rfl, _⟩ | ⟨g, rfl, _⟩
    · rfl
    · show some ((⟨g, 0, none⟩ : Addr).add 0) = _
      have : (⟨g, 0, none⟩ : Addr).add 0 = ⟨g, 0, none⟩ := by unfold Addr.add; split <;> simp_all
      rw [this]
  have hif : (if c2 = 0 then A2 else A2) = A2 := by split <;> rfl
  have HBT := Lib.hid (H.out.rest.bytes.take (k := n2) (by omega))
  clear h
  go_enter Tryd.func58, Tryd.ntmps58
  go_wp2
  refine region_T (fun i w' => i ∉ [0, 11, 12, 13, 14] → w'.cell? ⟨g, 0, none⟩ = some (.slice A1 n1 c1) ∧ w'.cell? ⟨g, 1, none⟩ = some (.slice A2 n2 c2)) (by kernel_rfl) ?_
  simp only [List.size_toArray, List.length_cons, List.length_nil, Nat.reduceAdd, Array.replicate_succ, Array.replicate_zero]
  refine wpAnyT_take (i := 0) (d := some 12) (v := .pointer (some ⟨g, 0, none⟩)) [] (fun _ => True) rfl rfl (by kernel_rfl) (by kernel_rfl) (by kernel_rfl) (by kernel_rfl) (by kernel_rfl) (fun _ _ _ _ => trivial) (fun w' _ h' => absurd (by simp) h') (fun _ _ _ h => h) (by rfl) (fun w' h => by go_simp) trivial ?_
  simp only [Act.put, List.setIfInBounds_toArray, List.set_cons_zero, List.set_cons_succ]
  refine wpAnyT_take (i := 1) (d := some 13) (v := .pointer (some ⟨g, 0, none⟩)) [0, 11, 12, 13, 14] _ rfl rfl (by kernel_rfl) (by kernel_rfl) (by kernel_rfl) (by kernel_rfl) (by kernel_rfl) (fun j w' hj h => h hj) (fun w' h _ => h) (fun _ _ _ h => h) (by rfl) (fun w' h => by obtain ⟨h1, h2⟩ := h; go_simp) S0 ?_
  simp only [Act.put, List.setIfInBounds_toArray, List.set_cons_zero, List.set_cons_succ]
  refine wpAnyT_take (i := 2) (d := some 14) (v := .pointer (some ⟨g, 0, none⟩)) [0, 11, 12, 13, 14] _ rfl rfl (by kernel_rfl) (by kernel_rfl) (by kernel_rfl) (by kernel_rfl) (by kernel_rfl) (fun j w' hj h => h hj) (fun w' h _ => h) (fun _ _ _ h => h) (by rfl) (fun w' h => by obtain ⟨h1, h2⟩ := h; go_simp) S0 ?_
  simp only [Act.put, List.setIfInBounds_toArray, List.set_cons_zero, List.set_cons_succ]
  refine wpAnyT_take (i := 3) (d := some 15) (v := .pointer (some ⟨g, 0, none⟩)) [0, 11, 12, 13, 14] _ rfl rfl (by kernel_rfl) (by kernel_rfl) (by kernel_rfl) (by kernel_rfl) (by kernel_rfl) (fun j w' hj h => h hj) (fun w' h _ => h) (fun _ _ _ h => h) (by rfl) (fun w' h => by obtain ⟨h1, h2⟩ := h; go_simp) S0 ?_
  simp only [Act.put, List.setIfInBounds_toArray, List.set_cons_zero, List.set_cons_succ]
  refine wpAnyT_take (i := 4) (d := some 16) (v := .slice A1 n1 c1) [0, 11, 12, 13, 14] _ rfl rfl (by kernel_rfl) (by kernel_rfl) (by kernel_rfl) (by kernel_rfl) (by kernel_rfl) (fun j w' hj h => h hj) (fun w' h _ => h) (fun _ _ _ h => h) (by rfl) (fun w' h => by obtain ⟨h1, h2⟩ := h; go_simp) S0 ?_
  simp only [Act.put, List.setIfInBounds_toArray, List.set_cons_zero, List.set_cons_succ]
  refine wpAnyT_take (i := 5) (d := some 17) (v := .pointer (some ⟨g, 0, none⟩)) [0, 11, 12, 13, 14] _ rfl rfl (by kernel_rfl) (by kernel_rfl) (by kernel_rfl) (by kernel_rfl) (by kernel_rfl) (fun j w' hj h => h hj) (fun w' h _ => h) (fun _ _ _ h => h) (by rfl) (fun w' h => by obtain ⟨h1, h2⟩ := h; go_simp) S0 ?_
  simp only [Act.put, List.setIfInBounds_toArray, List.set_cons_zero, List.set_cons_succ]
  refine wpAnyT_take (i := 6) (d := some 18) (v := .pointer (some ⟨g, 0, none⟩)) [0, 11, 12, 13, 14] _ rfl rfl (by kernel_rfl) (by kernel_rfl) (by kernel_rfl) (by kernel_rfl) (by kernel_rfl) (fun j w' hj h => h hj) (fun w' h _ => h) (fun _ _ _ h => h) (by rfl) (fun w' h => by obtain ⟨h1, h2⟩ := h; go_simp) S0 ?_
  simp only [Act.put, List.setIfInBounds_toArray, List.set_cons_zero, List.set_cons_succ]
  refine wpAnyT_take (i := 7) (d := some 19) (v := .pointer (some ⟨g, 1, none⟩)) [0, 11, 12, 13, 14] _ rfl rfl (by kernel_rfl) (by kernel_rfl) (by kernel_rfl) (by kernel_rfl) (by kernel_rfl) (fun j w' hj h => h hj) (fun w' h _ => h) (fun _ _ _ h => h) (by rfl) (fun w' h => by obtain ⟨h1, h2⟩ := h; go_simp) S0 ?_
  simp only [Act.put, List.setIfInBounds_toArray, List.set_cons_zero, List.set_cons_succ]
  refine wpAnyT_take (i := 8) (d := some 20) (v := .slice A2 n2 c2) [0, 11, 12, 13, 14] _ rfl rfl (by kernel_rfl) (by kernel_rfl) (by kernel_rfl) (by kernel_rfl) (by kernel_rfl) (fun j w' hj h => h hj) (fun w' h _ => h) (fun _ _ _ h => h) (by rfl) (fun w' h => by obtain ⟨h1, h2⟩ := h; go_simp) S0 ?_
  simp only [Act.put, List.setIfInBounds_toArray, List.set_cons_zero, List.set_cons_succ]
  refine wpAnyT_take (i := 9) (d := some 21) (v := .int .i64 (n2 : Int)) [0, 11, 12, 13, 14] _ rfl rfl (by kernel_rfl) (by kernel_rfl) (by kernel_rfl) (by kernel_rfl) (by kernel_rfl) (fun j w' hj h => h hj) (fun w' h _ => h) (fun _ _ _ h => h) (by rfl) (fun w' h => by obtain ⟨h1, h2⟩ := h; go_simp) S0 ?_
  simp only [Act.put, List.setIfInBounds_toArray, List.set_cons_zero, List.set_cons_succ]
  refine wpAnyT_take (i := 10) (d := some 22) (v := .slice A2 n2 c2) [0, 11, 12, 13, 14] _ rfl rfl (by kernel_rfl) (by kernel_rfl) (by kernel_rfl) (by kernel_rfl) (by kernel_rfl) (fun j w' hj h => h hj) (fun w' h _ => h) (fun _ _ _ h => h) (by rfl) (fun w' h => by obtain ⟨h1, h2⟩ := h; go_simp) S0 ?_
  simp only [Act.put, List.setIfInBounds_toArray, List.set_cons_zero, List.set_cons_succ]
  refine wpAnyT_one (i := 11) (by kernel_rfl) rfl (by rfl) ?_
  refine wp_bytes (some 23) rfl (.tmp 16) (.tmp 22) rfl rfl H.out.kept rfl HBT.out (by omega) (Nat.zero_le _) ?_
  intro A6 c6 w6 ho6 hg6 hat6
  refine ⟨fun h => absurd (by simp) h, ?_⟩
  simp only [Act.put, List.setIfInBounds_toArray, List.set_cons_zero, List.set_cons_succ]
  refine wpAnyT_one (i := 12) (by kernel_rfl) rfl (by rfl) ?_
  refine wp_value (some 24) rfl (v := .pointer (some ⟨g, 0, none⟩)) (w1 := w6) (by go_simp) ⟨fun h => absurd (by simp) h, ?_⟩
  simp only [Act.put, List.setIfInBounds_toArray, List.set_cons_zero, List.set_cons_succ]
  refine wpAnyT_one (i := 13) (by kernel_rfl) rfl (by rfl) ?_
  refine wp_value (some 25) rfl (v := .pointer (some ⟨g, 0, none⟩)) (w1 := w6) (by go_simp) ⟨fun h => absurd (by simp) h, ?_⟩
  simp only [Act.put, List.setIfInBounds_toArray, List.set_cons_zero, List.set_cons_succ]
  refine wpAnyT_one (i := 14) (by kernel_rfl) rfl (by rfl) ?_
  have hb6 := H.out.blk_grown (by decide) hg6 (fun r e => .inl e)
  have f1 : w6.cell? ⟨g, 0, none⟩ = some (.slice A1 n1 c1) := by rw [cell_of_row _ _ _ _ _ _ hb6]; rfl
  have f2 : w6.frozen? ⟨g, 0, none⟩ = false := by simp [World.frozen?, hb6]
  refine wp_skips none rfl (w1 := w6.setCell ⟨g, 0, none⟩ (.slice A6 (n1 + n2) c6)) (by go_simp) ⟨fun h => absurd (by simp) h, ?_⟩
  refine wpAnyT_done (by kernel_rfl) ?_ _
  have hJ := H.out.setKept (by decide) hg6 (fun r e => e) ho6 (by rcases hat6 with e | e; exact .inl e; exact .inr (fun k hk => by rw [e] at hk; cases hk; exact Nat.le_refl _))
  have hK : Kept C w (w6.setCell ⟨g, 0, none⟩ (.slice A6 (n1 + n2) c6)) := (((Kept.refl C w).drewN 1).grown hg6 (fun k e _ => hin k e)).setCell (fun _ => hin0) _
  have hsz := (grownBy_cell w6 g 0 (.slice A6 (n1 + n2) c6)).size
  clear f1 f2 hb6 hg6 ho6 hat6 e1
  generalize w6.setCell ⟨g, 0, none⟩ (.slice A6 (n1 + n2) c6) = w7 at *
  have q1 := hJ.cell1
  have q2 := hJ.cell2
  have q3 := hJ.cell3
  have z1 := hJ.frozen 1
  have z2 := hJ.frozen 2
  have z3 := hJ.frozen 3
  have hJ8 := ((hJ.noRest (by decide)).setFuse (by decide) (-1)).setDown (by decide) true
  have HK := Lib.hid (((hK.setCell (p := ⟨g, 1, none⟩) (fun _ => hin0) (.slice none 0 0)).setCell (p := ⟨g, 2, none⟩) (fun _ => hin0) (.int .i64 (-1))).setCell (p := ⟨g, 3, none⟩) (fun _ => hin0) (.bool true))
  have hsz8 : w7.heap.size ≤ (((w7.setCell ⟨g, 1, none⟩ (.slice none 0 0)).setCell ⟨g, 2, none⟩ (.int .i64 (-1))).setCell ⟨g, 3, none⟩ (.bool true)).heap.size := by simp
  have HJ8 := Lib.hid (hJ8.more (D := since w C _) (fun k hk => hk.imp id (fun ⟨a, b⟩ => ⟨a, Nat.lt_of_lt_of_le b (Nat.le_trans hsz hsz8)⟩)) (fun k hk => hk.elim (fun hc => hJ8.bd k (.inl hc)) (fun h => h.2)))
  clear hJ hK hJ8 hsz hsz8
  go_wp2
  go_end0
  exact ⟨⟨_, rfl⟩, ⟨_, _, _, _, _, _, by exact HJ8.out⟩, HK.out⟩
theorem jCrash (w : World) (g : Nat) (C : Nat → Prop) (J : JV) (h : JIn w 99 g C J) (hn : J.kept.length + J.rest.length ≤ 140737488355328) (keep : Int) :
    Calls Tryd.prog 58 #[.pointer (some ⟨g, 0, none⟩), .int .i64 keep] w fun e w' => (∃ v, e = .returned v) ∧ JIn w' 99 g (since w C w') (J.crash keep) ∧ Kept C w w' := by
  obtain ⟨A1, n1, c1, A2, n2, c2, h⟩ := h
  have hl1 := h.kept.len
  have hl2 := h.rest.len
  unfold JV.crash
  by_cases hk : keep < 0
  · have e : keepN keep J = 0 := by unfold keepN; omega
    rw [e]
    exact crashLow w g C J A1 n1 c1 A2 n2 c2 h (by omega) keep hk
  · obtain ⟨kk, rfl⟩ := Int.eq_ofNat_of_zero_le (show 0 ≤ keep by omega)
    by_cases hi : kk ≤ n2
    · have e : keepN (kk : Int) J = kk := by unfold keepN; omega
      rw [e]
      exact crashIn w g C J A1 n1 c1 A2 n2 c2 h (by omega) kk hi
    · have e : keepN (kk : Int) J = n2 := by unfold keepN; omega
      rw [e]
      exact crashOver w g C J A1 n1 c1 A2 n2 c2 h (by omega) kk (by omega)
end Go.Proofs.YtddcfgbembjbhaaDoor
