/- Journals: Open: walked (its beginning). -/
import Derived.Test.YtddcfgbembjbhaaDoorJour8
import Derived.Test.YtddcfgbembjbhaaDoorRefAll
namespace Go.Proofs.YtddcfgbembjbhaaDoor
open Go.RowKit
set_option linter.unusedVariables false
set_option linter.unusedSimpArgs false
set_option maxRecDepth 100000 in
set_option maxHeartbeats 2000000 in
theorem jOpen (w : World) (hw : 0 < w.heap.size) (ht : Four w) (g : Nat) (C : Nat → Prop) (J : JV) (h : JIn w 99 g C J) (hC : ∀ k, C k → 0 < k) (hn : J.kept.length ≤ 40000000000000) (hf : -9223372036854775808 ≤ J.fuse ∧ J.fuse ≤ 9223372036854775807) :
    Calls Tryd.prog 59 #[.pointer (some ⟨g, 0, none⟩)] w fun e w' => ∃ w3 AK nK cK AB nB cB, e = .returned (.tuple #[.slice AK nK cK, .slice AB nB cB, .int .i64 J.open.1.2]) ∧ Kept C w w3 ∧ Coll w3 w.heap.size AK nK cK (J.open.1.1.map (·.1)) AB nB cB (J.open.1.1.map (·.2)) ∧ Kept C w3 w' ∧ JIn w' 99 g (since w3 C w') J.open.2 := by
  obtain ⟨A1, n1, c1, A2, n2, c2, h⟩ := h
  have hbw := (Below.refl w.heap.size w).alloc (Nat.le_refl _) (.cells #[.pointer (some ⟨g, 0, none⟩)] 67)
  have H := Lib.hid (h.later hbw)
  have HB := Lib.hid hbw
  have hbx := Boxed.new w 67 (.pointer (some ⟨g, 0, none⟩))
  have hne : w.heap.size ≠ g := fun e => by have := h.lt; omega
  have hin0 := h.in0
  go_enter Tryd.func59, Tryd.ntmps59
  go_wp2_with fail
  generalize w.alloc (.cells #[.pointer (some ⟨g, 0, none⟩)] 67) = w1 at *
  have S0 : w1.drew.cell? ⟨w.heap.size, 0, none⟩ = some (.pointer (some ⟨g, 0, none⟩)) := hbx.cell
  have H1 := Lib.hid (H.out.later (w' := w1.drew) (Below.refl _ w1).drew)
  have HBX : Hid (Boxed w1.drew w.heap.size 67 (.pointer (some ⟨g, 0, none⟩))) := Lib.hid hbx
  clear h hbx hbw
  refine region_T (fun i w' => w'.cell? ⟨w.heap.size, 0, none⟩ = some (.pointer (some ⟨g, 0, none⟩))) (by kernel_rfl) ?_
  simp only [List.size_toArray, List.length_cons, List.length_nil, Nat.reduceAdd, Array.replicate_succ, Array.replicate_zero]
  refine wpAnyT_take (i := 0) (d := some 9) (v := .pointer (some ⟨g, 0, none⟩)) [] (fun w' => w'.cell? ⟨w.heap.size, 0, none⟩ = some (.pointer (some ⟨g, 0, none⟩))) rfl rfl (by kernel_rfl) (by kernel_rfl) (by kernel_rfl) (by kernel_rfl) (by kernel_rfl) (fun j w' _ h => h) (fun w' h => h) (fun _ _ _ h => h) (by rfl) (fun w' h => by go_simp) S0 ?_
  simp only [Act.put, List.setIfInBounds_toArray, List.set_cons_zero, List.set_cons_succ]
  refine wpAnyT_take (i := 1) (d := some 10) (v := .pointer (some ⟨g, 0, none⟩)) [] (fun w' => w'.cell? ⟨w.heap.size, 0, none⟩ = some (.pointer (some ⟨g, 0, none⟩))) rfl rfl (by kernel_rfl) (by kernel_rfl) (by kernel_rfl) (by kernel_rfl) (by kernel_rfl) (fun j w' _ h => h) (fun w' h => h) (fun _ _ _ h => h) (by rfl) (fun w' h => by go_simp) S0 ?_
  simp only [Act.put, List.setIfInBounds_toArray, List.set_cons_zero, List.set_cons_succ]
  refine wpAnyT_one (i := 2) (by kernel_rfl) rfl (by rfl) ?_
  refine wp_value (some 11) rfl (v := .pointer (some ⟨g, 0, none⟩)) (w1 := w1.drew) (by go_simp) ⟨S0, ?_⟩
  simp only [Act.put, List.setIfInBounds_toArray, List.set_cons_zero, List.set_cons_succ]
  refine wpAnyT_one (i := 3) (by kernel_rfl) rfl (by rfl) ?_
  refine wp_value (some 12) rfl (v := .pointer (some ⟨g, 1, none⟩)) (w1 := w1.drew) (by go_simp) ⟨S0, ?_⟩
  simp only [Act.put, List.setIfInBounds_toArray, List.set_cons_zero, List.set_cons_succ]
  refine wpAnyT_one (i := 4) (by kernel_rfl) rfl (by rfl) ?_
  have f1 := H1.out.cell1
  have z1 := H1.out.frozen 1
  have s2 : (w1.drew.setCell ⟨g, 1, none⟩ (.slice none 0 0)).cell? ⟨w.heap.size, 0, none⟩ = some (.pointer (some ⟨g, 0, none⟩)) := (World.cell?_of_block (Below.heap_setCell _ _ _ _ hne)).trans S0
  have H2 := Lib.hid (H1.out.noRest (by decide))
  have HK2 := Lib.hid ((Kept.of_below HB.out.drew : Kept C w w1.drew).setCell (p := ⟨g, 1, none⟩) (fun _ => hin0) (.slice none 0 0))
  have HB2 := Lib.hid (HBX.out.kept (grownBy_cell w1.drew g 1 (.slice none 0 0)) (by simp; omega))
  refine wp_skips none rfl (w1 := w1.drew.setCell ⟨g, 1, none⟩ (.slice none 0 0)) (by go_simp) ⟨s2, ?_⟩
  simp only [Act.put]
  clear f1 z1
  generalize w1.drew.setCell ⟨g, 1, none⟩ (.slice none 0 0) = w2 at *
  refine wpAnyT_one (i := 5) (by kernel_rfl) rfl (by rfl) ?_
  refine wp_value (some 13) rfl (v := .pointer (some ⟨g, 0, none⟩)) (w1 := w2) (by go_simp) ⟨s2, ?_⟩
  simp only [Act.put, List.setIfInBounds_toArray, List.set_cons_zero, List.set_cons_succ]
  refine wpAnyT_one (i := 6) (by kernel_rfl) rfl (by rfl) ?_
  refine wp_value (some 14) rfl (v := .pointer (some ⟨g, 3, none⟩)) (w1 := w2) (by go_simp) ⟨s2, ?_⟩
  simp only [Act.put, List.setIfInBounds_toArray, List.set_cons_zero, List.set_cons_succ]
  refine wpAnyT_one (i := 7) (by kernel_rfl) rfl (by rfl) ?_
  have f3 := H2.out.cell3
  have z3 := H2.out.frozen 3
  have s3 : (w2.setCell ⟨g, 3, none⟩ (.bool false)).cell? ⟨w.heap.size, 0, none⟩ = some (.pointer (some ⟨g, 0, none⟩)) := (World.cell?_of_block (Below.heap_setCell _ _ _ _ hne)).trans s2
  have H3 := Lib.hid (H2.out.setDown (by decide) false)
  have HK3 := Lib.hid (HK2.out.setCell (p := ⟨g, 3, none⟩) (fun _ => hin0) (.bool false))
  have HB3 := Lib.hid (HB2.out.kept (grownBy_cell w2 g 3 (.bool false)) (by simp; omega))
  refine wp_skips none rfl (w1 := w2.setCell ⟨g, 3, none⟩ (.bool false)) (by go_simp) ⟨s3, ?_⟩
  refine wpAnyT_done (by kernel_rfl) ?_ _
  clear f3 z3 S0 s2
  generalize w2.setCell ⟨g, 3, none⟩ (.bool false) = w3 at *
  have e0 := H3.out.cell0
  have hl1 := H3.out.kept.len
  have hz3 := HK3.out.size
  have ht3 := ht.below (HK3.out.below (B := 1) hw (fun k _ hc => hC k hc)) (by omega)
  go_wp2_with fail
  refine (frameAll A1 n1 c1 J.kept w3 (by omega) ht3 H3.out.kept.bytes (by omega) H3.out.kept.cap).mono ?_
  rintro e w4 ⟨AK, nK, cK, AB, nB, cB, rfl, hC4, hb4⟩
  have HC4 := Lib.hid (hC4.lower hz3)
  have HK4 := Lib.hid (HK3.out.trans (Kept.of_below hb4 : Kept C w3 w4) (fun _ _ hc => hc))
  have hz4 := hb4.size
  have b5 := (Below.refl w4.heap.size w4).alloc (Nat.le_refl _) (.cells #[.int .i64 ((flen (frames J.kept) : Nat) : Int)] 3)
  have H5 := Lib.hid ((H3.out.later hb4).later b5)
  have x5 := boxed_later (boxed_later HB3.out hb4) b5
  have y5 := Boxed.new w4 3 (.int .i64 ((flen (frames J.kept) : Nat) : Int))
  have f5 := x5.cell
  have g5 := y5.cell
  have e5 := H5.out.cell0
  have hfl : flen (frames J.kept) ≤ n1 := by have := (frames_are J.kept).2.2.1; omega
  have K5 := Lib.hid (Kept.of_below b5 : Kept C w4 _)
  clear hC4 hb4 e0 s3 ht ht3
  generalize hfr : frames J.kept = fr at *
  generalize hm : flen fr = m at *
  have hney : w4.heap.size ≠ g := fun e => by have := H3.out.lt; omega
  have hX5 := Lib.hid x5
  have hY5 := Lib.hid y5
  have hlo : m < n1 → (JV.up J).eff.1 = 0 → J.open = ((fr, 0), { J.up.eff.2 with kept := J.kept.take m }) := fun h1 h2 => by unfold JV.open; rw [hfr, hm, if_pos (by omega), if_pos h2]
  have hlo' : m < n1 → (JV.up J).eff.1 = 61 → J.open = (([], 61), J.up.eff.2) := fun h1 h2 => by unfold JV.open; rw [hfr, hm, if_pos (by omega), if_neg (by rw [h2]; decide), h2]
  have hlo2 : ¬ m < n1 → J.open = ((fr, 0), J.up) := fun h1 => by unfold JV.open; rw [hfr, hm, if_neg (by omega)]
  have HO1 := Lib.hid hlo
  have HO2 := Lib.hid hlo'
  have HO3 := Lib.hid hlo2
  clear hlo hlo' hlo2 hfr hm b5 x5 y5
  by_cases hlt : m < n1
  rotate_left
  · go_wp2_with fail
    go_quiet (fail)
    go_wp2
    refine bodyPost_ret (results_tmp3' rfl _ _ _) rfl ?_
    rw [HO3.out hlt]
    exact ⟨w4, AK, nK, cK, AB, nB, cB, rfl, HK4.out, HC4.out, K5.out.drewN _, _, _, _, _, _, _, (H5.out.draws _).to_ w4⟩
  · go_wp2_with fail
    go_quiet (fail)
    go_wp2_with fail
    have Q := Lib.hid (effect81 ((w4.alloc (.cells #[.int .i64 (m : Int)] 3)).drewN nq) g w.heap.size w4.heap.size C J.up A1 n1 c1 none 0 0 (H5.out.draws nq) hf (fun W' => (∃ A c, JAt W' 99 g (since w4 C W') { J.up.eff.2 with kept := J.kept.take m } A m c none 0 0) ∧ Kept C w4 W') (fun h0 W hJ hK => by
      have hkw : Kept C w4 W := (K5.out.drewN nq).trans hK (fun i _ e => e ▸ hin0)
      refine (doOpen W g w.heap.size w4.heap.size C J.up.eff.2 A1 n1 c1 none 0 0 m hJ (boxed_kept (show Boxed ((w4.alloc (.cells #[.int .i64 (m : Int)] 3)).drewN nq) _ _ _ from hX5.out) hK hne) (boxed_kept (show Boxed ((w4.alloc (.cells #[.int .i64 (m : Int)] 3)).drewN nq) _ _ _ from hY5.out) hK hney) hfl (by omega)).mono ?_
      rintro e W' ⟨hv, ⟨A, c, hA⟩, hKW⟩
      rw [(eff_rest J.up).2] at hA
      exact ⟨hv, ⟨A, c, hA.from_ hkw.size⟩, hkw.trans hKW (fun _ _ hc => hc)⟩))
    refine Q.out.mono ?_
    rintro e w' (⟨h1, rfl, hJ, hK⟩ | ⟨h1, rfl, hJ, hK⟩)
    · have HA := Lib.hid (HO2.out hlt h1)
      have HJ := Lib.hid (hJ.to_ w4)
      have HK := Lib.hid ((K5.out.drewN nq).trans hK (fun _ _ hc => hc))
      clear hJ hK h1
      go_wp2
      refine bodyPost_ret (results_tmp3' rfl _ _ _) rfl ?_
      rw [HA.out]
      exact ⟨w4, none, 0, 0, none, 0, 0, rfl, HK4.out, Coll.nil _ _, HK.out, _, _, _, _, _, _, HJ.out⟩
    · obtain ⟨A, c, hA⟩ := hJ
      have HA := Lib.hid (HO1.out hlt h1)
      have HJ := Lib.hid hA
      have HK := Lib.hid hK
      clear hA hK h1
      go_wp2
      refine bodyPost_ret (results_tmp3' rfl _ _ _) rfl ?_
      rw [HA.out]
      exact ⟨w4, AK, nK, cK, AB, nB, cB, rfl, HK4.out, HC4.out, HK.out, _, _, _, _, _, _, HJ.out⟩
end Go.Proofs.YtddcfgbembjbhaaDoor
