/- Journals: what the closures do: walked. -/
import Derived.Test.YtddcfgbembjbhaaDoorJour
import Derived.Test.YtddcfgbembjbhaaDoorTurns
import Derived.Test.YtddcfgbembjbhaaDoorAll2
namespace Go.Proofs.YtddcfgbembjbhaaDoor
open Go.RowKit
set_option linter.unusedVariables false
set_option linter.unusedSimpArgs false
theorem wp_hide {P : Program} {o : Oper} {a : Act} {w : World} {K : Act → World → Prop} {Q : Exit → Act → World → Prop} (h : ∀ K' : Act → World → Prop, (∀ a w, K a w → K' a w) → o.wp P a w K' Q) : o.wp P a w K Q := h K fun _ _ h => h
theorem ownBlock_row {A : Option Addr} {n c : Nat} : Value.ownBlock (.slice A n c) = A.map (·.block) := by cases A <;> rfl
theorem JAt.blk_grown {w w' : World} {t : TypeId} {g : Nat} {C : Nat → Prop} {J : JV} {A1 A2 : Option Addr} {n1 c1 n2 c2 : Nat} (h : JAt w t g C J A1 n1 c1 A2 n2 c2) (ht : t ≠ 5) {row : Option Nat} (hg : w.grownBy w' row)
    (hr : ∀ r, row = some r → A1.map (·.block) = some r ∨ A2.map (·.block) = some r) : w'.heap[g]? = some (.cells #[.slice A1 n1 c1, .slice A2 n2 c2, .int .i64 J.fuse, .bool J.down] t (0, 0)) := by
  refine (hg.block g h.lt (fun e => ?_)).trans h.blk
  rcases hr g e.symm with e' | e'
  · rcases row_ne ht h.blk h.kept with e2 | e2
    · rw [e'] at e2; cases e2
    · exact e2 e'
  · rcases row_ne ht h.blk h.rest with e2 | e2
    · rw [e'] at e2; cases e2
    · exact e2 e'
set_option maxRecDepth 100000 in
set_option maxHeartbeats 2000000 in
theorem doAppend (w : World) (g bj bb : Nat) (C : Nat → Prop) (J : JV) (A1 : Option Addr) (n1 c1 : Nat) (A2 : Option Addr) (n2 c2 : Nat) (Ab : Option Addr) (nb cb B : Nat) (lb : List UInt8)
    (h : JAt w 99 g C J A1 n1 c1 A2 n2 c2) (hj : Boxed w bj 67 (.pointer (some ⟨g, 0, none⟩))) (hb : Boxed w bb 23 (.slice Ab nb cb)) (hr : BytesAt w B Ab nb lb) (hn : n2 + nb ≤ 140737488355328) :
    Calls Tryd.prog 79 #[.pointer (some ⟨bj, 0, none⟩), .pointer (some ⟨bb, 0, none⟩)] w fun e w' => (∃ v, e = .returned v) ∧ (∃ A c, JAt w' 99 g (since w C w') { J with rest := J.rest ++ lb } A1 n1 c1 A (n2 + nb) c) ∧ Kept C w w' := by
  have H := Lib.hid (h.later (w' := w.drew) (Below.refl _ w).drew)
  have HR := Lib.hid hr
  have S0 : (w.drew.cell? ⟨bj, 0, none⟩ = some (.pointer (some ⟨g, 0, none⟩))) ∧ w.drew.cell? ⟨bb, 0, none⟩ = some (.slice Ab nb cb) ∧ w.drew.cell? ⟨g, 1, none⟩ = some (.slice A2 n2 c2) := ⟨hj.cell, hb.cell, h.cell1⟩
  have HJB : Hid (Boxed w.drew bj 67 (.pointer (some ⟨g, 0, none⟩))) := Lib.hid hj
  have hin := h.in2
  have hin0 := h.in0
  clear h hj hb hr
  go_enter Tryd.func79, Tryd.ntmps79
  refine region_T (fun i w' => w'.cell? ⟨bj, 0, none⟩ = some (.pointer (some ⟨g, 0, none⟩)) ∧ (i ∉ [0, 6, 7, 8, 9] → (w'.cell? ⟨bj, 0, none⟩ = some (.pointer (some ⟨g, 0, none⟩))) ∧ w'.cell? ⟨bb, 0, none⟩ = some (.slice Ab nb cb) ∧ w'.cell? ⟨g, 1, none⟩ = some (.slice A2 n2 c2))) (by kernel_rfl) ?_
  simp only [List.size_toArray, List.length_cons, List.length_nil, Nat.reduceAdd, Array.replicate_succ, Array.replicate_zero]
  refine wpAnyT_take (i := 0) (d := some 2) (v := .pointer (some ⟨g, 0, none⟩)) [] (fun w' => w'.cell? ⟨bj, 0, none⟩ = some (.pointer (some ⟨g, 0, none⟩))) rfl rfl (by kernel_rfl) (by kernel_rfl) (by kernel_rfl) (by kernel_rfl) (by kernel_rfl) (fun j w' _ h => h.1) (fun w' h => ⟨h, fun h' => absurd (by simp) h'⟩) (fun _ _ _ h => h) (by rfl) (fun w' h => by go_simp) S0.1 ?_
  simp only [Act.put, List.setIfInBounds_toArray, List.set_cons_zero, List.set_cons_succ]
  refine wpAnyT_take (i := 1) (d := some 3) (v := .pointer (some ⟨g, 0, none⟩)) [0, 6, 7, 8, 9] _ rfl rfl (by kernel_rfl) (by kernel_rfl) (by kernel_rfl) (by kernel_rfl) (by kernel_rfl) (fun j w' hj h => h.2 hj) (fun w' h => ⟨h.1, fun _ => h⟩) (fun _ _ _ h => h) (by rfl) (fun w' h => by obtain ⟨h1, h2, h3⟩ := h; go_simp) S0 ?_
  simp only [Act.put, List.setIfInBounds_toArray, List.set_cons_zero, List.set_cons_succ]
  refine wpAnyT_take (i := 2) (d := some 4) (v := .pointer (some ⟨g, 0, none⟩)) [0, 6, 7, 8, 9] _ rfl rfl (by kernel_rfl) (by kernel_rfl) (by kernel_rfl) (by kernel_rfl) (by kernel_rfl) (fun j w' hj h => h.2 hj) (fun w' h => ⟨h.1, fun _ => h⟩) (fun _ _ _ h => h) (by rfl) (fun w' h => by obtain ⟨h1, h2, h3⟩ := h; go_simp) S0 ?_
  simp only [Act.put, List.setIfInBounds_toArray, List.set_cons_zero, List.set_cons_succ]
  refine wpAnyT_take (i := 3) (d := some 5) (v := .pointer (some ⟨g, 1, none⟩)) [0, 6, 7, 8, 9] _ rfl rfl (by kernel_rfl) (by kernel_rfl) (by kernel_rfl) (by kernel_rfl) (by kernel_rfl) (fun j w' hj h => h.2 hj) (fun w' h => ⟨h.1, fun _ => h⟩) (fun _ _ _ h => h) (by rfl) (fun w' h => by obtain ⟨h1, h2, h3⟩ := h; go_simp) S0 ?_
  simp only [Act.put, List.setIfInBounds_toArray, List.set_cons_zero, List.set_cons_succ]
  refine wpAnyT_take (i := 4) (d := some 6) (v := .slice A2 n2 c2) [0, 6, 7, 8, 9] _ rfl rfl (by kernel_rfl) (by kernel_rfl) (by kernel_rfl) (by kernel_rfl) (by kernel_rfl) (fun j w' hj h => h.2 hj) (fun w' h => ⟨h.1, fun _ => h⟩) (fun _ _ _ h => h) (by rfl) (fun w' h => by obtain ⟨h1, h2, h3⟩ := h; go_simp) S0 ?_
  simp only [Act.put, List.setIfInBounds_toArray, List.set_cons_zero, List.set_cons_succ]
  refine wpAnyT_take (i := 5) (d := some 7) (v := .slice Ab nb cb) [0, 6, 7, 8, 9] _ rfl rfl (by kernel_rfl) (by kernel_rfl) (by kernel_rfl) (by kernel_rfl) (by kernel_rfl) (fun j w' hj h => h.2 hj) (fun w' h => ⟨h.1, fun _ => h⟩) (fun _ _ _ h => h) (by rfl) (fun w' h => by obtain ⟨h1, h2, h3⟩ := h; go_simp) S0 ?_
  simp only [Act.put, List.setIfInBounds_toArray, List.set_cons_zero, List.set_cons_succ]
  refine wpAnyT_one (i := 6) (by kernel_rfl) rfl (by rfl) ?_
  refine wp_bytes (some 8) rfl (.tmp 6) (.tmp 7) rfl rfl H.out.rest rfl (HR.out.draws 1) hn (Nat.zero_le _) ?_
  intro A6 c6 w6 ho6 hg6 hat6
  have hbox6 : w6.cell? ⟨bj, 0, none⟩ = some (.pointer (some ⟨g, 0, none⟩)) := (HJB.out.kept hg6 (by rw [← ownBlock_row]; exact HJB.out.not_row (by decide) H.out.rest)).cell
  refine ⟨⟨hbox6, fun h => absurd (by simp) h⟩, ?_⟩
  simp only [Act.put, List.setIfInBounds_toArray, List.set_cons_zero, List.set_cons_succ]
  refine wpAnyT_one (i := 7) (by kernel_rfl) rfl (by rfl) ?_
  refine wp_value (some 9) rfl (v := .pointer (some ⟨g, 0, none⟩)) (w1 := w6) (by go_simp) ⟨⟨hbox6, fun h => absurd (by simp) h⟩, ?_⟩
  simp only [Act.put, List.setIfInBounds_toArray, List.set_cons_zero, List.set_cons_succ]
  refine wpAnyT_one (i := 8) (by kernel_rfl) rfl (by rfl) ?_
  refine wp_value (some 10) rfl (v := .pointer (some ⟨g, 1, none⟩)) (w1 := w6) (by go_simp) ⟨⟨hbox6, fun h => absurd (by simp) h⟩, ?_⟩
  simp only [Act.put, List.setIfInBounds_toArray, List.set_cons_zero, List.set_cons_succ]
  refine wpAnyT_one (i := 9) (by kernel_rfl) rfl (by rfl) ?_
  have hb6 := H.out.blk_grown (by decide) hg6 (fun r e => .inr e)
  have e1 : w6.cell? ⟨g, 1, none⟩ = some (.slice A2 n2 c2) := by rw [cell_of_row _ _ _ _ _ _ hb6]; rfl
  have e2 : w6.frozen? ⟨g, 1, none⟩ = false := by simp [World.frozen?, hb6]
  have hbox7 : (w6.setCell ⟨g, 1, none⟩ (.slice A6 (n2 + nb) c6)).cell? ⟨bj, 0, none⟩ = some (.pointer (some ⟨g, 0, none⟩)) := (World.cell?_of_block (Below.heap_setCell _ _ _ bj (fun e => by
    have h1 := HJB.out
    unfold Boxed at h1
    have h2 := H.out.blk
    rw [show bj = g from e] at h1
    rw [h1] at h2
    simp at h2))).trans hbox6
  refine wp_skips none rfl (w1 := w6.setCell ⟨g, 1, none⟩ (.slice A6 (n2 + nb) c6)) (by go_simp) ⟨⟨hbox7, fun h => absurd (by simp) h⟩, ?_⟩
  refine wpAnyT_done (by kernel_rfl) ?_ _
  have hJ := H.out.setRest (by decide) hg6 (fun r e => e) ho6 (by rcases hat6 with e | e; exact .inl e; exact .inr (fun k hk => by rw [e] at hk; cases hk; exact Nat.le_refl _))
  have hK : Kept C w (w6.setCell ⟨g, 1, none⟩ (.slice A6 (n2 + nb) c6)) := (((Kept.refl C w).drewN 1).grown hg6 (fun k e _ => hin k e)).setCell (fun _ => hin0) _
  go_end0
  have hsz := (grownBy_cell w6 g 1 (.slice A6 (n2 + nb) c6)).size
  exact ⟨⟨_, rfl⟩, ⟨A6, c6, hJ.more (fun k hk => hk.imp id (fun ⟨a, b⟩ => ⟨a, Nat.lt_of_lt_of_le b hsz⟩)) (fun k hk => hk.elim (fun hc => hJ.bd k (.inl hc)) (fun h => h.2))⟩, hK⟩

set_option maxRecDepth 100000 in
set_option maxHeartbeats 2000000 in
theorem doSync (w : World) (g bj : Nat) (C : Nat → Prop) (J : JV) (A1 : Option Addr) (n1 c1 : Nat) (A2 : Option Addr) (n2 c2 : Nat)
    (h : JAt w 99 g C J A1 n1 c1 A2 n2 c2) (hj : Boxed w bj 67 (.pointer (some ⟨g, 0, none⟩))) (hn : n1 + n2 ≤ 140737488355328) :
    Calls Tryd.prog 80 #[.pointer (some ⟨bj, 0, none⟩)] w fun e w' => (∃ v, e = .returned v) ∧ (∃ A c, JAt w' 99 g (since w C w') { J with kept := J.kept ++ J.rest, rest := [] } A (n1 + n2) c none 0 0) ∧ Kept C w w' := by
  have H := Lib.hid (h.later (w' := w.drew) (Below.refl _ w).drew)
  have S0 : (w.drew.cell? ⟨bj, 0, none⟩ = some (.pointer (some ⟨g, 0, none⟩))) ∧ w.drew.cell? ⟨g, 0, none⟩ = some (.slice A1 n1 c1) ∧ w.drew.cell? ⟨g, 1, none⟩ = some (.slice A2 n2 c2) := ⟨hj.cell, h.cell0, h.cell1⟩
  have HJB : Hid (Boxed w.drew bj 67 (.pointer (some ⟨g, 0, none⟩))) := Lib.hid hj
  have hin := h.in1
  have hin0 := h.in0
  have hbg : bj ≠ g := fun e => by
    have h1 := hj
    unfold Boxed at h1
    have h2 := h.blk
    rw [e] at h1
    rw [h1] at h2
    simp at h2
  clear h hj
  go_enter Tryd.func80, Tryd.ntmps80
  refine region_T (fun i w' => w'.cell? ⟨bj, 0, none⟩ = some (.pointer (some ⟨g, 0, none⟩)) ∧ (i ∉ [0, 1, 10, 11, 12, 13, 14, 15, 16] → (w'.cell? ⟨bj, 0, none⟩ = some (.pointer (some ⟨g, 0, none⟩))) ∧ w'.cell? ⟨g, 0, none⟩ = some (.slice A1 n1 c1) ∧ w'.cell? ⟨g, 1, none⟩ = some (.slice A2 n2 c2))) (by kernel_rfl) ?_
  simp only [List.size_toArray, List.length_cons, List.length_nil, Nat.reduceAdd, Array.replicate_succ, Array.replicate_zero]
  refine wpAnyT_take (i := 0) (d := some 1) (v := .pointer (some ⟨g, 0, none⟩)) [] (fun w' => w'.cell? ⟨bj, 0, none⟩ = some (.pointer (some ⟨g, 0, none⟩))) rfl rfl (by kernel_rfl) (by kernel_rfl) (by kernel_rfl) (by kernel_rfl) (by kernel_rfl) (fun j w' _ h => h.1) (fun w' h => ⟨h, fun h' => absurd (by simp) h'⟩) (fun _ _ _ h => h) (by rfl) (fun w' h => by go_simp) S0.1 ?_
  simp only [Act.put, List.setIfInBounds_toArray, List.set_cons_zero, List.set_cons_succ]
  refine wpAnyT_take (i := 1) (d := some 2) (v := .pointer (some ⟨g, 0, none⟩)) [] (fun w' => w'.cell? ⟨bj, 0, none⟩ = some (.pointer (some ⟨g, 0, none⟩))) rfl rfl (by kernel_rfl) (by kernel_rfl) (by kernel_rfl) (by kernel_rfl) (by kernel_rfl) (fun j w' _ h => h.1) (fun w' h => ⟨h, fun h' => absurd (by simp) h'⟩) (fun _ _ _ h => h) (by rfl) (fun w' h => by go_simp) S0.1 ?_
  simp only [Act.put, List.setIfInBounds_toArray, List.set_cons_zero, List.set_cons_succ]
  refine wpAnyT_take (i := 2) (d := some 3) (v := .pointer (some ⟨g, 0, none⟩)) [0, 1, 10, 11, 12, 13, 14, 15, 16] _ rfl rfl (by kernel_rfl) (by kernel_rfl) (by kernel_rfl) (by kernel_rfl) (by kernel_rfl) (fun j w' hj h => h.2 hj) (fun w' h => ⟨h.1, fun _ => h⟩) (fun _ _ _ h => h) (by rfl) (fun w' h => by obtain ⟨h1, h2, h3⟩ := h; go_simp) S0 ?_
  simp only [Act.put, List.setIfInBounds_toArray, List.set_cons_zero, List.set_cons_succ]
  refine wpAnyT_take (i := 3) (d := some 4) (v := .pointer (some ⟨g, 0, none⟩)) [0, 1, 10, 11, 12, 13, 14, 15, 16] _ rfl rfl (by kernel_rfl) (by kernel_rfl) (by kernel_rfl) (by kernel_rfl) (by kernel_rfl) (fun j w' hj h => h.2 hj) (fun w' h => ⟨h.1, fun _ => h⟩) (fun _ _ _ h => h) (by rfl) (fun w' h => by obtain ⟨h1, h2, h3⟩ := h; go_simp) S0 ?_
  simp only [Act.put, List.setIfInBounds_toArray, List.set_cons_zero, List.set_cons_succ]
  refine wpAnyT_take (i := 4) (d := some 5) (v := .pointer (some ⟨g, 0, none⟩)) [0, 1, 10, 11, 12, 13, 14, 15, 16] _ rfl rfl (by kernel_rfl) (by kernel_rfl) (by kernel_rfl) (by kernel_rfl) (by kernel_rfl) (fun j w' hj h => h.2 hj) (fun w' h => ⟨h.1, fun _ => h⟩) (fun _ _ _ h => h) (by rfl) (fun w' h => by obtain ⟨h1, h2, h3⟩ := h; go_simp) S0 ?_
  simp only [Act.put, List.setIfInBounds_toArray, List.set_cons_zero, List.set_cons_succ]
  refine wpAnyT_take (i := 5) (d := some 6) (v := .slice A1 n1 c1) [0, 1, 10, 11, 12, 13, 14, 15, 16] _ rfl rfl (by kernel_rfl) (by kernel_rfl) (by kernel_rfl) (by kernel_rfl) (by kernel_rfl) (fun j w' hj h => h.2 hj) (fun w' h => ⟨h.1, fun _ => h⟩) (fun _ _ _ h => h) (by rfl) (fun w' h => by obtain ⟨h1, h2, h3⟩ := h; go_simp) S0 ?_
  simp only [Act.put, List.setIfInBounds_toArray, List.set_cons_zero, List.set_cons_succ]
  refine wpAnyT_take (i := 6) (d := some 7) (v := .pointer (some ⟨g, 0, none⟩)) [0, 1, 10, 11, 12, 13, 14, 15, 16] _ rfl rfl (by kernel_rfl) (by kernel_rfl) (by kernel_rfl) (by kernel_rfl) (by kernel_rfl) (fun j w' hj h => h.2 hj) (fun w' h => ⟨h.1, fun _ => h⟩) (fun _ _ _ h => h) (by rfl) (fun w' h => by obtain ⟨h1, h2, h3⟩ := h; go_simp) S0 ?_
  simp only [Act.put, List.setIfInBounds_toArray, List.set_cons_zero, List.set_cons_succ]
  refine wpAnyT_take (i := 7) (d := some 8) (v := .pointer (some ⟨g, 0, none⟩)) [0, 1, 10, 11, 12, 13, 14, 15, 16] _ rfl rfl (by kernel_rfl) (by kernel_rfl) (by kernel_rfl) (by kernel_rfl) (by kernel_rfl) (fun j w' hj h => h.2 hj) (fun w' h => ⟨h.1, fun _ => h⟩) (fun _ _ _ h => h) (by rfl) (fun w' h => by obtain ⟨h1, h2, h3⟩ := h; go_simp) S0 ?_
  simp only [Act.put, List.setIfInBounds_toArray, List.set_cons_zero, List.set_cons_succ]
  refine wpAnyT_take (i := 8) (d := some 9) (v := .pointer (some ⟨g, 1, none⟩)) [0, 1, 10, 11, 12, 13, 14, 15, 16] _ rfl rfl (by kernel_rfl) (by kernel_rfl) (by kernel_rfl) (by kernel_rfl) (by kernel_rfl) (fun j w' hj h => h.2 hj) (fun w' h => ⟨h.1, fun _ => h⟩) (fun _ _ _ h => h) (by rfl) (fun w' h => by obtain ⟨h1, h2, h3⟩ := h; go_simp) S0 ?_
  simp only [Act.put, List.setIfInBounds_toArray, List.set_cons_zero, List.set_cons_succ]
  refine wpAnyT_take (i := 9) (d := some 10) (v := .slice A2 n2 c2) [0, 1, 10, 11, 12, 13, 14, 15, 16] _ rfl rfl (by kernel_rfl) (by kernel_rfl) (by kernel_rfl) (by kernel_rfl) (by kernel_rfl) (fun j w' hj h => h.2 hj) (fun w' h => ⟨h.1, fun _ => h⟩) (fun _ _ _ h => h) (by rfl) (fun w' h => by obtain ⟨h1, h2, h3⟩ := h; go_simp) S0 ?_
  simp only [Act.put, List.setIfInBounds_toArray, List.set_cons_zero, List.set_cons_succ]
  refine wpAnyT_one (i := 10) (by kernel_rfl) rfl (by rfl) ?_
  refine wp_bytes (some 11) rfl (.tmp 6) (.tmp 10) rfl rfl H.out.kept rfl H.out.rest.bytes hn (Nat.zero_le _) ?_
  intro A6 c6 w6 ho6 hg6 hat6
  have hbox6 : w6.cell? ⟨bj, 0, none⟩ = some (.pointer (some ⟨g, 0, none⟩)) := (HJB.out.kept hg6 (by rw [← ownBlock_row]; exact HJB.out.not_row (by decide) H.out.kept)).cell
  refine ⟨⟨hbox6, fun h => absurd (by simp) h⟩, ?_⟩
  simp only [Act.put, List.setIfInBounds_toArray, List.set_cons_zero, List.set_cons_succ]
  refine wpAnyT_one (i := 11) (by kernel_rfl) rfl (by rfl) ?_
  refine wp_value (some 12) rfl (v := .pointer (some ⟨g, 0, none⟩)) (w1 := w6) (by go_simp) ⟨⟨hbox6, fun h => absurd (by simp) h⟩, ?_⟩
  simp only [Act.put, List.setIfInBounds_toArray, List.set_cons_zero, List.set_cons_succ]
  refine wpAnyT_one (i := 12) (by kernel_rfl) rfl (by rfl) ?_
  refine wp_value (some 13) rfl (v := .pointer (some ⟨g, 0, none⟩)) (w1 := w6) (by go_simp) ⟨⟨hbox6, fun h => absurd (by simp) h⟩, ?_⟩
  simp only [Act.put, List.setIfInBounds_toArray, List.set_cons_zero, List.set_cons_succ]
  refine wpAnyT_one (i := 13) (by kernel_rfl) rfl (by rfl) ?_
  have hb6 := H.out.blk_grown (by decide) hg6 (fun r e => .inl e)
  have e1 : w6.cell? ⟨g, 0, none⟩ = some (.slice A1 n1 c1) := by rw [cell_of_row _ _ _ _ _ _ hb6]; rfl
  have e2 : w6.frozen? ⟨g, 0, none⟩ = false := by simp [World.frozen?, hb6]
  have hbox7 : (w6.setCell ⟨g, 0, none⟩ (.slice A6 (n1 + n2) c6)).cell? ⟨bj, 0, none⟩ = some (.pointer (some ⟨g, 0, none⟩)) := (World.cell?_of_block (Below.heap_setCell _ _ _ bj hbg)).trans hbox6
  refine wp_skips none rfl (w1 := w6.setCell ⟨g, 0, none⟩ (.slice A6 (n1 + n2) c6)) (by go_simp) ⟨⟨hbox7, fun h => absurd (by simp) h⟩, ?_⟩
  have hJ := H.out.setKept (by decide) hg6 (fun r e => e) ho6 (by rcases hat6 with e | e; exact .inl e; exact .inr (fun k hk => by rw [e] at hk; cases hk; exact Nat.le_refl _))
  have hK : Kept C w (w6.setCell ⟨g, 0, none⟩ (.slice A6 (n1 + n2) c6)) := (((Kept.refl C w).drewN 1).grown hg6 (fun k e _ => hin k e)).setCell (fun _ => hin0) _
  have hsz := (grownBy_cell w6 g 0 (.slice A6 (n1 + n2) c6)).size
  clear e1 e2 hb6 hbox6 hg6 ho6 hat6
  generalize w6.setCell ⟨g, 0, none⟩ (.slice A6 (n1 + n2) c6) = w7 at *
  simp only [Act.put]
  refine wpAnyT_one (i := 14) (by kernel_rfl) rfl (by rfl) ?_
  refine wp_value (some 14) rfl (v := .pointer (some ⟨g, 0, none⟩)) (w1 := w7) (by go_simp) ⟨⟨hbox7, fun h => absurd (by simp) h⟩, ?_⟩
  simp only [Act.put, List.setIfInBounds_toArray, List.set_cons_zero, List.set_cons_succ]
  refine wpAnyT_one (i := 15) (by kernel_rfl) rfl (by rfl) ?_
  refine wp_value (some 15) rfl (v := .pointer (some ⟨g, 1, none⟩)) (w1 := w7) (by go_simp) ⟨⟨hbox7, fun h => absurd (by simp) h⟩, ?_⟩
  simp only [Act.put, List.setIfInBounds_toArray, List.set_cons_zero, List.set_cons_succ]
  refine wpAnyT_one (i := 16) (by kernel_rfl) rfl (by rfl) ?_
  have f1 := hJ.cell1
  have z1 := hJ.frozen 1
  have hbox8 : (w7.setCell ⟨g, 1, none⟩ (.slice none 0 0)).cell? ⟨bj, 0, none⟩ = some (.pointer (some ⟨g, 0, none⟩)) := (World.cell?_of_block (Below.heap_setCell _ _ _ bj hbg)).trans hbox7
  refine wp_skips none rfl (w1 := w7.setCell ⟨g, 1, none⟩ (.slice none 0 0)) (by go_simp) ⟨⟨hbox8, fun h => absurd (by simp) h⟩, ?_⟩
  refine wpAnyT_done (by kernel_rfl) ?_ _
  have hJ8 := hJ.noRest (by decide)
  have hsz8 := (grownBy_cell w7 g 1 (.slice none 0 0)).size
  go_end0
  exact ⟨⟨_, rfl⟩, ⟨A6, c6, hJ8.more (fun k hk => hk.imp id (fun ⟨a, b⟩ => ⟨a, Nat.lt_of_lt_of_le b (Nat.le_trans hsz hsz8)⟩)) (fun k hk => hk.elim (fun hc => hJ8.bd k (.inl hc)) (fun h => h.2))⟩, hK.setCell (fun _ => hin0) _⟩

set_option maxRecDepth 100000 in
set_option maxHeartbeats 2000000 in
theorem doOpen (w : World) (g bj ba : Nat) (C : Nat → Prop) (J : JV) (A1 : Option Addr) (n1 c1 : Nat) (A2 : Option Addr) (n2 c2 : Nat) (m : Nat)
    (h : JAt w 99 g C J A1 n1 c1 A2 n2 c2) (hj : Boxed w bj 67 (.pointer (some ⟨g, 0, none⟩))) (hb : Boxed w ba 3 (.int .i64 (m : Int))) (hm : m ≤ n1) (hn : n1 ≤ 140737488351232) :
    Calls Tryd.prog 81 #[.pointer (some ⟨bj, 0, none⟩), .pointer (some ⟨ba, 0, none⟩)] w fun e w' => (∃ v, e = .returned v) ∧ (∃ A c, JAt w' 99 g (since w C w') { J with kept := J.kept.take m } A m c A2 n2 c2) ∧ Kept C w w' := by
  have H := Lib.hid (h.later (w' := w.drew) (Below.refl _ w).drew)
  have S0 : (w.drew.cell? ⟨bj, 0, none⟩ = some (.pointer (some ⟨g, 0, none⟩))) ∧ w.drew.cell? ⟨ba, 0, none⟩ = some (.int .i64 (m : Int)) ∧ w.drew.cell? ⟨g, 0, none⟩ = some (.slice A1 n1 c1) := ⟨hj.cell, hb.cell, h.cell0⟩
  have HJB : Hid (Boxed w.drew bj 67 (.pointer (some ⟨g, 0, none⟩))) := Lib.hid hj
  have hin := h.in1
  have hin0 := h.in0
  have hbg : bj ≠ g := fun e => by
    have h1 := hj
    unfold Boxed at h1
    have h2 := h.blk
    rw [e] at h1
    rw [h1] at h2
    simp at h2
  have hac : m ≤ c1 := Nat.le_trans hm h.kept.cap
  have hA8 : Option.map (fun x => x.add 0) A1 = A1 := by
    rcases h.kept.form with ⟨rfl, _⟩ | ⟨g, rfl, _⟩
    · rfl
    · show some ((⟨g, 0, none⟩ : Addr).add 0) = _
      have : (⟨g, 0, none⟩ : Addr).add 0 = ⟨g, 0, none⟩ := by unfold Addr.add; split <;> simp_all
      rw [this]
  have hif : (if c1 = 0 then A1 else A1) = A1 := by split <;> rfl
  have QC := Lib.hid (clone A1 m c1 (J.kept.take m) w.drew.heap.size w.drew (H.out.kept.bytes.take hm) (Nat.le_refl _) (by omega))
  clear h hj hb
  go_enter Tryd.func81, Tryd.ntmps81
  refine region_T (fun i w' => w'.cell? ⟨bj, 0, none⟩ = some (.pointer (some ⟨g, 0, none⟩)) ∧ (i ∉ [0, 7, 8, 9, 10] → (w'.cell? ⟨bj, 0, none⟩ = some (.pointer (some ⟨g, 0, none⟩))) ∧ w'.cell? ⟨ba, 0, none⟩ = some (.int .i64 (m : Int)) ∧ w'.cell? ⟨g, 0, none⟩ = some (.slice A1 n1 c1))) (by kernel_rfl) ?_
  simp only [List.size_toArray, List.length_cons, List.length_nil, Nat.reduceAdd, Array.replicate_succ, Array.replicate_zero]
  refine wpAnyT_take (i := 0) (d := some 2) (v := .pointer (some ⟨g, 0, none⟩)) [] (fun w' => w'.cell? ⟨bj, 0, none⟩ = some (.pointer (some ⟨g, 0, none⟩))) rfl rfl (by kernel_rfl) (by kernel_rfl) (by kernel_rfl) (by kernel_rfl) (by kernel_rfl) (fun j w' _ h => h.1) (fun w' h => ⟨h, fun h' => absurd (by simp) h'⟩) (fun _ _ _ h => h) (by rfl) (fun w' h => by go_simp) S0.1 ?_
  simp only [Act.put, List.setIfInBounds_toArray, List.set_cons_zero, List.set_cons_succ]
  refine wpAnyT_take (i := 1) (d := some 3) (v := .pointer (some ⟨g, 0, none⟩)) [0, 7, 8, 9, 10] _ rfl rfl (by kernel_rfl) (by kernel_rfl) (by kernel_rfl) (by kernel_rfl) (by kernel_rfl) (fun j w' hj h => h.2 hj) (fun w' h => ⟨h.1, fun _ => h⟩) (fun _ _ _ h => h) (by rfl) (fun w' h => by obtain ⟨h1, h2, h3⟩ := h; go_simp) S0 ?_
  simp only [Act.put, List.setIfInBounds_toArray, List.set_cons_zero, List.set_cons_succ]
  refine wpAnyT_take (i := 2) (d := some 4) (v := .pointer (some ⟨g, 0, none⟩)) [0, 7, 8, 9, 10] _ rfl rfl (by kernel_rfl) (by kernel_rfl) (by kernel_rfl) (by kernel_rfl) (by kernel_rfl) (fun j w' hj h => h.2 hj) (fun w' h => ⟨h.1, fun _ => h⟩) (fun _ _ _ h => h) (by rfl) (fun w' h => by obtain ⟨h1, h2, h3⟩ := h; go_simp) S0 ?_
  simp only [Act.put, List.setIfInBounds_toArray, List.set_cons_zero, List.set_cons_succ]
  refine wpAnyT_take (i := 3) (d := some 5) (v := .pointer (some ⟨g, 0, none⟩)) [0, 7, 8, 9, 10] _ rfl rfl (by kernel_rfl) (by kernel_rfl) (by kernel_rfl) (by kernel_rfl) (by kernel_rfl) (fun j w' hj h => h.2 hj) (fun w' h => ⟨h.1, fun _ => h⟩) (fun _ _ _ h => h) (by rfl) (fun w' h => by obtain ⟨h1, h2, h3⟩ := h; go_simp) S0 ?_
  simp only [Act.put, List.setIfInBounds_toArray, List.set_cons_zero, List.set_cons_succ]
  refine wpAnyT_take (i := 4) (d := some 6) (v := .slice A1 n1 c1) [0, 7, 8, 9, 10] _ rfl rfl (by kernel_rfl) (by kernel_rfl) (by kernel_rfl) (by kernel_rfl) (by kernel_rfl) (fun j w' hj h => h.2 hj) (fun w' h => ⟨h.1, fun _ => h⟩) (fun _ _ _ h => h) (by rfl) (fun w' h => by obtain ⟨h1, h2, h3⟩ := h; go_simp) S0 ?_
  simp only [Act.put, List.setIfInBounds_toArray, List.set_cons_zero, List.set_cons_succ]
  refine wpAnyT_take (i := 5) (d := some 7) (v := .int .i64 (m : Int)) [0, 7, 8, 9, 10] _ rfl rfl (by kernel_rfl) (by kernel_rfl) (by kernel_rfl) (by kernel_rfl) (by kernel_rfl) (fun j w' hj h => h.2 hj) (fun w' h => ⟨h.1, fun _ => h⟩) (fun _ _ _ h => h) (by rfl) (fun w' h => by obtain ⟨h1, h2, h3⟩ := h; go_simp) S0 ?_
  simp only [Act.put, List.setIfInBounds_toArray, List.set_cons_zero, List.set_cons_succ]
  refine wpAnyT_take (i := 6) (d := some 8) (v := .slice A1 m c1) [0, 7, 8, 9, 10] _ rfl rfl (by kernel_rfl) (by kernel_rfl) (by kernel_rfl) (by kernel_rfl) (by kernel_rfl) (fun j w' hj h => h.2 hj) (fun w' h => ⟨h.1, fun _ => h⟩) (fun _ _ _ h => h) (by rfl) (fun w' h => by obtain ⟨h1, h2, h3⟩ := h; go_simp) S0 ?_
  simp only [Act.put, List.setIfInBounds_toArray, List.set_cons_zero, List.set_cons_succ]
  refine wpAnyT_one (i := 7) (by kernel_rfl) rfl (by rfl) ?_
  refine wp_hide (fun K' hK' => ?_)
  go_simp
  refine QC.out.mono ?_
  rintro e w6 ⟨A6, c6, rfl, ho6, hb6⟩
  have hbox6 : w6.cell? ⟨bj, 0, none⟩ = some (.pointer (some ⟨g, 0, none⟩)) := (boxed_later HJB.out hb6).cell
  refine hK' _ _ ⟨⟨hbox6, fun h => absurd (by simp) h⟩, ?_⟩
  clear hK' K'
  refine wpAnyT_one (i := 8) (by kernel_rfl) rfl (by rfl) ?_
  refine wp_value (some 10) rfl (v := .pointer (some ⟨g, 0, none⟩)) (w1 := w6) (by go_simp) ⟨⟨hbox6, fun h => absurd (by simp) h⟩, ?_⟩
  simp only [Act.put, List.setIfInBounds_toArray, List.set_cons_zero, List.set_cons_succ]
  refine wpAnyT_one (i := 9) (by kernel_rfl) rfl (by rfl) ?_
  refine wp_value (some 11) rfl (v := .pointer (some ⟨g, 0, none⟩)) (w1 := w6) (by go_simp) ⟨⟨hbox6, fun h => absurd (by simp) h⟩, ?_⟩
  simp only [Act.put, List.setIfInBounds_toArray, List.set_cons_zero, List.set_cons_succ]
  refine wpAnyT_one (i := 10) (by kernel_rfl) rfl (by rfl) ?_
  have hg6 : w.drew.grownBy w6 none := ⟨hb6.os, hb6.tape, hb6.output, hb6.size, fun k hk _ => hb6.block k hk⟩
  have hb6' := H.out.blk_grown (by decide) hg6 (fun r e => by cases e)
  have e1 : w6.cell? ⟨g, 0, none⟩ = some (.slice A1 n1 c1) := by rw [cell_of_row _ _ _ _ _ _ hb6']; rfl
  have e2 : w6.frozen? ⟨g, 0, none⟩ = false := by simp [World.frozen?, hb6']
  have hbox7 : (w6.setCell ⟨g, 0, none⟩ (.slice A6 m c6)).cell? ⟨bj, 0, none⟩ = some (.pointer (some ⟨g, 0, none⟩)) := (World.cell?_of_block (Below.heap_setCell _ _ _ bj hbg)).trans hbox6
  refine wp_skips none rfl (w1 := w6.setCell ⟨g, 0, none⟩ (.slice A6 m c6)) (by go_simp) ⟨⟨hbox7, fun h => absurd (by simp) h⟩, ?_⟩
  refine wpAnyT_done (by kernel_rfl) ?_ _
  have hJ := H.out.setKept (by decide) hg6 (fun r e => by cases e) (ho6.lower (Nat.zero_le _)) (.inr (fun k hk => by
    rcases ho6.map_form with e' | ⟨k', _, e', hb, _⟩
    · rw [hk] at e'; cases e'
    · rw [hk] at e'; cases e'; exact hb))
  have hK : Kept C w (w6.setCell ⟨g, 0, none⟩ (.slice A6 m c6)) := (((Kept.refl C w).drewN 1).grown hg6 (fun k e _ => by cases e)).setCell (fun _ => hin0) _
  have hsz := (grownBy_cell w6 g 0 (.slice A6 m c6)).size
  go_end0
  exact ⟨⟨_, rfl⟩, ⟨A6, c6, hJ.more (fun k hk => hk.imp id (fun ⟨a, b⟩ => ⟨a, Nat.lt_of_lt_of_le b hsz⟩)) (fun k hk => hk.elim (fun hc => hJ.bd k (.inl hc)) (fun h => h.2))⟩, hK⟩
end Go.Proofs.YtddcfgbembjbhaaDoor
