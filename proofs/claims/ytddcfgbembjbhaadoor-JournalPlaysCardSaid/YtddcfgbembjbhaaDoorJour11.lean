/- Journals: the live question: walked. -/
import Derived.Test.YtddcfgbembjbhaaDoorJour10
namespace Go.Proofs.YtddcfgbembjbhaaDoor
open Go.RowKit
set_option linter.unusedVariables false
set_option linter.unusedSimpArgs false
theorem JIn.later {w w' : World} {t : TypeId} {g : Nat} {C : Nat → Prop} {J : JV} (h : JIn w t g C J) (hb : Below w.heap.size w w') : JIn w' t g C J := by
  obtain ⟨A1, n1, c1, A2, n2, c2, h⟩ := h
  exact ⟨A1, n1, c1, A2, n2, c2, h.later hb⟩
theorem since_ge {w w' : World} {C : Nat → Prop} {B : Nat} (h : ∀ k, C k → B ≤ k) (hB : B ≤ w.heap.size) : ∀ k, since w C w' k → B ≤ k := fun k hk => hk.elim (h k) (fun h => Nat.le_trans hB h.1)
set_option maxRecDepth 100000 in
set_option maxHeartbeats 4000000 in
theorem head06 (w : World) (hw : 0 < w.heap.size) (ht : Four w) : Calls Tryd.prog 54 #[] w fun e w' => e = .returned (.bool true) ∧ Below w.heap.size w w' := by
  have HT := Lib.hid ht
  have kc := fun (w : World) (C : Array Value) (n c : Nat) => Lib.run_convert_bytes_const (P := Tryd.prog) w 23 5 C n c Tryd.underlying23 Tryd.underlying5
  clear ht
  go_enter Tryd.func54, Tryd.ntmps54
  go_wp2_with fail
  refine (jNew w).mono ?_
  rintro e w1 ⟨rfl, hJ1, b1⟩
  have HJ1 := Lib.hid (hJ1.later ((Below.refl w1.heap.size w1).alloc (Nat.le_refl _) (.cells #[.int .u8 97] 5 (1, 2))))
  have b1' := b1.alloc b1.size (.cells #[.int .u8 97] 5 (1, 2))
  have hs1 := b1.size
  have HB1 := Lib.hid b1'
  have HBY := Lib.hid (BytesAt.new w1 #[.int .u8 97] 5 (1, 2) [97] 1 w1.heap.size (w1.heap.size + 1) rfl rfl rfl (by omega))
  have hC1 : ∀ k, k = w.heap.size → w.heap.size ≤ k := fun k e => Nat.le_of_eq e.symm
  clear hJ1 b1 b1'
  go_wp2_with fail
  have hz1 : (w1.alloc (.cells #[.int .u8 97] 5 (1, 2))).heap.size = w1.heap.size + 1 := by simp
  refine (jAppend _ (by omega) (HT.out.below HB1.out hw) w.heap.size _ JV.new HJ1.out (by decide) 1 (some ⟨w1.heap.size, 0, none⟩) 1 1 (w1.heap.size + 1) [97] HBY.out (by omega) (by omega) (by decide)).mono ?_
  rintro e w2 ⟨rfl, hJ2, hK2⟩
  rw [new_append 1 [97] (by decide)] at hJ2 ⊢
  have hC2 := since_ge (w' := w2) hC1 (show w.heap.size ≤ (w1.alloc (.cells #[.int .u8 97] 5 (1, 2))).heap.size by omega)
  have HB2 := Lib.hid (HB1.out.trans ((hK2.below (B := w.heap.size) (by omega) (fun k _ hc => hC1 k hc))))
  have HJ2 := Lib.hid hJ2
  have hz2 := HB2.out.size
  clear hJ2 hK2
  go_wp2_with fail
  generalize since (w1.alloc (.cells #[.int .u8 97] 5 (1, 2))) (fun k => k = w.heap.size) w2 = C2 at *
  clear HJ1 HBY hC1 hz1 kc
  refine (jSync w2 w.heap.size C2 _ HJ2.out (by decide) (by simp only [fput_len]; decide)).mono ?_
  rintro e w3 ⟨rfl, hJ3, hK3⟩
  rw [head_sync] at hJ3 ⊢
  have hC3 := since_ge (w' := w3) hC2 hz2
  have HB3 := Lib.hid (HB2.out.trans (hK3.below (B := w.heap.size) hz2 (fun k _ hc => hC2 k hc)))
  have HJ3 := Lib.hid hJ3
  have hz3 := HB3.out.size
  clear hJ3 hK3
  generalize since w2 C2 w3 = C3 at *
  go_wp2_with fail
  refine (jCrash w3 w.heap.size C3 _ HJ3.out (by simp only [fput_len]; decide) 0).mono ?_
  rintro e w4 ⟨⟨v4, rfl⟩, hJ4, hK4⟩
  rw [head_crash] at hJ4
  have hC4 := since_ge (w' := w4) hC3 hz3
  have HB4 := Lib.hid (HB3.out.trans (hK4.below (B := w.heap.size) hz3 (fun k _ hc => hC3 k hc)))
  have HJ4 := Lib.hid hJ4
  have hz4 := HB4.out.size
  clear hJ4 hK4
  generalize since w3 C3 w4 = C4 at *
  go_wp2_with fail
  refine (jEffect w4 w.heap.size C4 _ HJ4.out (by decide)).mono ?_
  rintro e w5 ⟨rfl, hJ5, hK5⟩
  rw [head_eff] at hJ5 ⊢
  have hC5 := since_ge (w' := w5) hC4 hz4
  have HB5 := Lib.hid (HB4.out.trans (hK5.below (B := w.heap.size) hz4 (fun k _ hc => hC4 k hc)))
  have HJ5 := Lib.hid hJ5
  have hz5 := HB5.out.size
  clear hJ5 hK5
  generalize since w4 C4 w5 = C5 at *
  go_wp2_with fail
  refine (jOpen w5 (by omega) (HT.out.below HB5.out hw) w.heap.size C5 _ HJ5.out (fun k hk => by have := hC5 k hk; omega) (by simp only [fput_len]; decide) (by decide)).mono ?_
  rintro e w6 ⟨w7, AK, nK, cK, AB, nB, cB, rfl, hK6, hC6, hK7, hJ6⟩
  rw [head_open 1 [97] (by decide)] at hC6 ⊢
  have hcol := hC6.keptC hK7 (fun k hk => .inl (by
    obtain ⟨_, _, _, _, _, _, hh⟩ := HJ5.out
    exact hh.bd k hk))
  simp only [List.map_cons, List.map_nil] at hcol ⊢
  have hct := hcol.count
  obtain ⟨h1, h2⟩ := hct
  simp only [List.length_cons, List.length_nil, Nat.zero_add] at h1 h2
  subst h1 h2
  obtain ⟨b, o, A2, n2, c2, rfl, _, hcell, hbytes⟩ := hcol.lists.2 0 [97] rfl
  have hcell' : w6.cell? ⟨b, o, none⟩ = some (.slice A2 n2 c2) := hcell
  have hcv := conv_str hbytes c2
  have hsl : ((str [97]).toList == [97]) = true := by rw [str_list]; rfl
  have HB7 := Lib.hid (HB5.out.trans (((hK6.trans hK7 (fun _ _ hc => hc)).below (B := w.heap.size) hz5 (fun k _ hc => hC5 k hc))))
  clear hcol hbytes hC6 hK6 hK7 hJ6 hcell
  go_wp2_with fail
  go_ret
  exact ⟨by simp, HB7.out⟩
end Go.Proofs.YtddcfgbembjbhaaDoor
