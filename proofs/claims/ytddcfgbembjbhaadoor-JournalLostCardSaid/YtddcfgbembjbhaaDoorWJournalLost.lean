/- The law JournalLost, walked. -/
import Derived.Test.YtddcfgbembjbhaaDoorLostMath
import Derived.Deep.RegionHeld3
namespace Go.Proofs.YtddcfgbembjbhaaDoor
open Go.RowKit
set_option linter.unusedVariables false
set_option linter.unusedSimpArgs false
set_option maxRecDepth 100000 in
set_option maxHeartbeats 4000000 in
theorem walkJournalLost (w : World) (hw : 0 < w.heap.size) (ht : Four w) (k : Int) (hk : 0 ≤ k ∧ k ≤ 255) (A : Option Addr) (n c : Nat) (l : List UInt8) (hr : BytesAt w w.heap.size A n l) (hc : n ≤ c) (hn : c ≤ 140737488351232)
    (A2 : Option Addr) (n2 c2 : Nat) (l2 : List UInt8) (hr2 : BytesAt w w.heap.size A2 n2 l2) (hc2 : n2 ≤ c2) (hn2 : c2 ≤ 140737488351232) (keep : Int) (hkp : -9223372036854775808 ≤ keep ∧ keep ≤ 9223372036854775807) (crash : Bool) :
    Calls Tryd.prog 24 #[.int .u8 k, .slice A n c, .slice A2 n2 c2, .int .i64 keep, .bool crash] w fun e w' => e = .returned (.bool true) ∧ Below w.heap.size w w' := by
  have hkb : k = ((UInt8.ofNat k.toNat).toNat : Int) := by
    have : k.toNat < 256 := by omega
    simp
    omega
  generalize UInt8.ofNat k.toNat = kb at hkb
  subst hkb
  have HT := Lib.hid ht
  have HR := Lib.hid hr
  have HR2 := Lib.hid hr2
  clear ht hr hr2
  go_enter Tryd.func24, Tryd.ntmps24
  go_wp2_with fail
  refine (head06 w hw HT.out).mono ?_
  rintro e w0 ⟨rfl, b0⟩
  have HB0 := Lib.hid b0
  have hs0 := b0.size
  clear b0
  go_wp2_with fail
  refine (jNew w0).mono ?_
  rintro e w1 ⟨rfl, hJ1, b1⟩
  have HB1 := Lib.hid (HB0.out.trans (b1.mono hs0))
  have HJ1 := Lib.hid hJ1
  have hs1 := HB1.out.size
  have hC1 : ∀ q, q = w0.heap.size → w.heap.size ≤ q := fun q e => by omega
  clear hJ1 b1
  go_wp2_with fail
  have hl := HR.out.1
  have hl2 := HR2.out.1
  refine (jAppend w1 (by omega) (HT.out.below HB1.out hw) w0.heap.size _ JV.new HJ1.out (by decide) kb A n c w.heap.size l (HR.out.below HB1.out) hs1 (by omega) (by decide)).mono ?_
  rintro e w2 ⟨rfl, hJ2, hK2⟩
  have hC2 := since_ge (w := w1) (w' := w2) hC1 hs1
  have HB2 := Lib.hid (HB1.out.trans (hK2.below (B := w.heap.size) hs1 (fun q _ hq => hC1 q hq)))
  have hs2 := HB2.out.size
  by_cases h8 : 8192 < l.length
  · have hE : JV.new.append kb l = (2, JV.new) := by unfold JV.append; rw [if_pos h8]
    rw [hE]
    have h8n : 8192 < n := by omega
    clear hJ2 hK2 hE h8 hl
    go_wp2
    go_ret
    exact ⟨by simp; omega, HB2.out⟩
  rw [new_append kb l (by omega)] at hJ2 ⊢
  have HJ2 := Lib.hid hJ2
  clear hJ2 hK2
  generalize since w1 (fun k => k = w0.heap.size) w2 = C2 at *
  go_wp2_with fail
  refine (jSync w2 w0.heap.size C2 _ HJ2.out (show (-9223372036854775808 : Int) ≤ -1 ∧ (-1 : Int) ≤ 9223372036854775807 by decide) (by simp only [fput_len, List.length_nil]; omega)).mono ?_
  rintro e w3 ⟨rfl, hJ3, hK3⟩
  rw [head_sync] at hJ3 ⊢
  have hC3 := since_ge (w' := w3) hC2 hs2
  have HB3 := Lib.hid (HB2.out.trans (hK3.below (B := w.heap.size) hs2 (fun q _ hq => hC2 q hq)))
  have HJ3 := Lib.hid hJ3
  have hs3 := HB3.out.size
  clear hJ3 hK3
  generalize since w2 C2 w3 = C3 at *
  go_wp2_with fail
  refine (jAppend w3 (by omega) (HT.out.below HB3.out hw) w0.heap.size C3 _ HJ3.out (show (-9223372036854775808 : Int) ≤ -1 ∧ (-1 : Int) ≤ 9223372036854775807 by decide) kb A2 n2 c2 w.heap.size l2 (HR2.out.below HB3.out) hs3 (by omega) (by simp)).mono ?_
  rintro e w4 ⟨rfl, hJ4, hK4⟩
  have hC4 := since_ge (w := w3) (w' := w4) hC3 hs3
  have HB4 := Lib.hid (HB3.out.trans (hK4.below (B := w.heap.size) hs3 (fun q _ hq => hC3 q hq)))
  have hs4 := HB4.out.size
  by_cases h9 : 8192 < l2.length
  · have hE : (⟨fput kb l, [], -1, false⟩ : JV).append kb l2 = (2, ⟨fput kb l, [], -1, false⟩) := by unfold JV.append; rw [if_pos h9]
    rw [hE]
    have h9n : 8192 < n2 := by omega
    clear hJ4 hK4 hE h9 hl hl2 h8
    go_wp2
    go_ret
    exact ⟨by simp; omega, HB4.out⟩
  have hE : (⟨fput kb l, [], -1, false⟩ : JV).append kb l2 = (0, ⟨fput kb l, fput kb l2, -1, false⟩) := by unfold JV.append; rw [if_neg h9]; rfl
  rw [hE] at hJ4 ⊢
  have HJ4 := Lib.hid hJ4
  clear hJ4 hK4 hE
  generalize since w3 C3 w4 = C4 at *
  have hn0 : l.length ≤ 8192 := by omega
  have hn2 : l2.length ≤ 8192 := by omega
  cases crash with
  | false =>
    have HO5 := Lib.hid (show (⟨fput kb l, fput kb l2, -1, false⟩ : JV).open = (([(kb, l)], 0), ⟨fput kb l, [], -1, false⟩) by
      have := lost_open kb l l2 (fput kb l2) 0 false (by omega) (by omega) (by omega)
      rwa [List.take_zero, List.append_nil] at this)
    have HL5 := Lib.hid (show (⟨fput kb l, fput kb l2, -1, false⟩ : JV).kept.length ≤ 40000000000000 by simp only [fput_len]; omega)
    have HF5 := Lib.hid (show -9223372036854775808 ≤ (⟨fput kb l, fput kb l2, -1, false⟩ : JV).fuse ∧ (⟨fput kb l, fput kb l2, -1, false⟩ : JV).fuse ≤ 9223372036854775807 from ⟨(by decide : (-9223372036854775808 : Int) ≤ -1), (by decide : (-1 : Int) ≤ 9223372036854775807)⟩)
    generalize (⟨fput kb l, fput kb l2, -1, false⟩ : JV) = J4 at *
    go_wp2_with fail
    refine (jOpen w4 (by omega) (HT.out.below HB4.out hw) w0.heap.size C4 J4 HJ4.out (fun q hq => by have := hC4 q hq; omega) HL5.out HF5.out).mono ?_
    rintro e w7 ⟨w6, AK, nK, cK, AB, nB, cB, rfl, hK5, hC5, hK6, hJ6⟩
    rw [HO5.out] at hC5 hJ6 ⊢
    have hcol := hC5.keptC hK6 (fun q hq => .inl (by
      obtain ⟨_, _, _, _, _, _, hh⟩ := HJ4.out
      exact hh.bd q hq))
    have HB6 := Lib.hid (HB4.out.trans (((hK5.trans hK6 (fun _ _ hc => hc)).below (B := w.heap.size) hs4 (fun q _ hc => hC4 q hc))))
    simp only [List.map_cons, List.map_nil] at hcol ⊢
    obtain ⟨h1, h2⟩ := hcol.count
    simp only [List.length_cons, List.length_nil, Nat.zero_add] at h1 h2
    subst h1 h2
    obtain ⟨gK, rfl, _, hgK, _⟩ := hcol.kinds.form_pos (by omega)
    have fK := hcol.kinds.cellD 0 (by omega)
    rw [show ([kb] : List UInt8).getD 0 0 = kb from rfl] at fK
    obtain ⟨gB, oB, A7, n7, c7, rfl, hgB, fB, hb7⟩ := hcol.lists.2 0 l rfl
    have fB' : w7.cell? ⟨gB, oB, none⟩ = some (.slice A7 n7 c7) := fB
    have hz6 := HB6.out.size
    have QS := jSynced w7.drew w0.heap.size _ _ (hJ6.later (Below.refl _ w7).drew) (by simp only [fput_len]; omega)
    rw [show (⟨fput kb l, [], -1, false⟩ : JV).kept.length = n + 8 by simp only [fput_len]; omega] at QS
    have QSH := Lib.hid QS
    have HB7 := Lib.hid hb7
    have HR6 := Lib.hid (HR.out.below HB6.out)
    have hcv1 : (convert 23 9 (.slice A7 n7 c7)).run Tryd.prog w7.drew = .ok (.string (str l)) w7.drew := conv_str (hb7.draws 1) c7
    have hcv2 : (convert 23 9 (.slice A n c)).run Tryd.prog w7.drew = .ok (.string (str l)) w7.drew := conv_str ((HR.out.below HB6.out).draws 1) c
    have fK1 : w7.drew.cell? ⟨gK, 0, none⟩ = some (.int .u8 (kb.toNat : Int)) := fK
    have fB1 : w7.drew.cell? ⟨gB, oB, none⟩ = some (.slice A7 n7 c7) := fB
    have HGK : Hid (gK < w7.drew.heap.size) := Lib.hid hgK
    have HGB : Hid (gB < w7.drew.heap.size) := Lib.hid hgB
    clear hcol hC5 hK5 hK6 hJ6 fB fK hb7 QS fB' hgK hgB
    go_wp2_with fail
    go_region_held3 (fun w' => w'.cell? ⟨gK, 0, none⟩ = some (.int .u8 (kb.toNat : Int)) ∧ w'.cell? ⟨gB, oB, none⟩ = some (.slice A7 n7 c7) ∧ (convert 23 9 (.slice A7 n7 c7)).run Tryd.prog w' = .ok (.string (str l)) w' ∧ (convert 23 9 (.slice A n c)).run Tryd.prog w' = .ok (.string (str l)) w')
      ((first | assumption | trivial))
      ((go_at_call 60; refine QSH.out.mono ?_; clear QSH; rintro e w8 ⟨A8, c8, rfl, ho8, hb8⟩; have fK2 : w8.cell? ⟨gK, 0, none⟩ = some (.int .u8 (kb.toNat : Int)) := (hb8.cell (p := ⟨gK, 0, none⟩) HGK.out).trans fK1; have fB2 : w8.cell? ⟨gB, oB, none⟩ = some (.slice A7 n7 c7) := (hb8.cell (p := ⟨gB, oB, none⟩) HGB.out).trans fB1; have hcv3 : (convert 23 9 (.slice A7 n7 c7)).run Tryd.prog w8 = .ok (.string (str l)) w8 := conv_str ((HB7.out.draws 1).below hb8) c7; have hcv4 : (convert 23 9 (.slice A n c)).run Tryd.prog w8 = .ok (.string (str l)) w8 := conv_str ((HR6.out.draws 1).below (hb8.mono hz6)) c))
    go_wp2
    go_ret
    exact ⟨by simp; exact (IntWalk.i64_in _ (by omega)).symm, HB6.out.drew.trans (hb8.mono hz6)⟩
  | true =>
    have hm7 : ∀ kp : Int, kp ≤ (n2 : Int) + 7 → keepN kp ⟨fput kb l, fput kb l2, -1, false⟩ < l2.length + 8 := fun kp h => by
      unfold keepN
      simp only [fput_len]
      omega
    have HM7 := Lib.hid hm7
    clear hm7
    by_cases hk7 : keep ≤ (n2 : Int) + 7
    · go_wp2_with fail
      refine (jCrash w4 w0.heap.size C4 _ HJ4.out (by simp only [fput_len]; omega) keep).mono ?_
      rintro e w5 ⟨⟨v5, rfl⟩, hJ5, hK5⟩
      have hm := HM7.out keep hk7
      rw [show (⟨fput kb l, fput kb l2, -1, false⟩ : JV).crash keep = ⟨fput kb l ++ (fput kb l2).take (keepN keep ⟨fput kb l, fput kb l2, -1, false⟩), [], -1, true⟩ from rfl] at hJ5
      generalize keepN keep ⟨fput kb l, fput kb l2, -1, false⟩ = m at hm hJ5
      have hD5 := since_ge (w := w4) (w' := w5) hC4 hs4
      have HB5 := Lib.hid (HB4.out.trans (hK5.below (B := w.heap.size) hs4 (fun q _ hq => hC4 q hq)))
      have hs5 := HB5.out.size
      have HO5 := Lib.hid (lost_open kb l l2 [] m true hn0 hn2 hm)
      have HL5 := Lib.hid (show (⟨fput kb l ++ (fput kb l2).take m, [], -1, true⟩ : JV).kept.length ≤ 40000000000000 by simp only [List.length_append, List.length_take, fput_len]; omega)
      have HF5 := Lib.hid (show -9223372036854775808 ≤ (⟨fput kb l ++ (fput kb l2).take m, [], -1, true⟩ : JV).fuse ∧ (⟨fput kb l ++ (fput kb l2).take m, [], -1, true⟩ : JV).fuse ≤ 9223372036854775807 from ⟨(by decide : (-9223372036854775808 : Int) ≤ -1), (by decide : (-1 : Int) ≤ 9223372036854775807)⟩)
      have HJ5 := Lib.hid hJ5
      clear hJ5 hK5 HM7
      generalize since w4 C4 w5 = C5 at *
      generalize (⟨fput kb l ++ (fput kb l2).take m, [], -1, true⟩ : JV) = J5 at *
      go_wp2_with fail
      refine (jOpen w5 (by omega) (HT.out.below HB5.out hw) w0.heap.size C5 J5 HJ5.out (fun q hq => by have := hD5 q hq; omega) HL5.out HF5.out).mono ?_
      rintro e w7 ⟨w6, AK, nK, cK, AB, nB, cB, rfl, hK5, hC5, hK6, hJ6⟩
      rw [HO5.out] at hC5 hJ6 ⊢
      have hcol := hC5.keptC hK6 (fun q hq => .inl (by
        obtain ⟨_, _, _, _, _, _, hh⟩ := HJ5.out
        exact hh.bd q hq))
      have HB6 := Lib.hid (HB5.out.trans (((hK5.trans hK6 (fun _ _ hc => hc)).below (B := w.heap.size) hs5 (fun q _ hc => hD5 q hc))))
      simp only [List.map_cons, List.map_nil] at hcol ⊢
      obtain ⟨h1, h2⟩ := hcol.count
      simp only [List.length_cons, List.length_nil, Nat.zero_add] at h1 h2
      subst h1 h2
      obtain ⟨gK, rfl, _, hgK, _⟩ := hcol.kinds.form_pos (by omega)
      have fK := hcol.kinds.cellD 0 (by omega)
      rw [show ([kb] : List UInt8).getD 0 0 = kb from rfl] at fK
      obtain ⟨gB, oB, A7, n7, c7, rfl, hgB, fB, hb7⟩ := hcol.lists.2 0 l rfl
      have fB' : w7.cell? ⟨gB, oB, none⟩ = some (.slice A7 n7 c7) := fB
      have hz6 := HB6.out.size
      have QS := jSynced w7.drew w0.heap.size _ _ (hJ6.later (Below.refl _ w7).drew) (by simp only [fput_len]; omega)
      rw [show (⟨fput kb l, [], -1, false⟩ : JV).kept.length = n + 8 by simp only [fput_len]; omega] at QS
      have QSH := Lib.hid QS
      have HB7 := Lib.hid hb7
      have HR6 := Lib.hid (HR.out.below HB6.out)
      have hcv1 : (convert 23 9 (.slice A7 n7 c7)).run Tryd.prog w7.drew = .ok (.string (str l)) w7.drew := conv_str (hb7.draws 1) c7
      have hcv2 : (convert 23 9 (.slice A n c)).run Tryd.prog w7.drew = .ok (.string (str l)) w7.drew := conv_str ((HR.out.below HB6.out).draws 1) c
      have fK1 : w7.drew.cell? ⟨gK, 0, none⟩ = some (.int .u8 (kb.toNat : Int)) := fK
      have fB1 : w7.drew.cell? ⟨gB, oB, none⟩ = some (.slice A7 n7 c7) := fB
      have HGK : Hid (gK < w7.drew.heap.size) := Lib.hid hgK
      have HGB : Hid (gB < w7.drew.heap.size) := Lib.hid hgB
      clear hcol hC5 hK5 hK6 hJ6 fB fK hb7 QS fB' hgK hgB
      go_wp2_with fail
      go_region_held3 (fun w' => w'.cell? ⟨gK, 0, none⟩ = some (.int .u8 (kb.toNat : Int)) ∧ w'.cell? ⟨gB, oB, none⟩ = some (.slice A7 n7 c7) ∧ (convert 23 9 (.slice A7 n7 c7)).run Tryd.prog w' = .ok (.string (str l)) w' ∧ (convert 23 9 (.slice A n c)).run Tryd.prog w' = .ok (.string (str l)) w')
        ((first | assumption | trivial))
        ((go_at_call 60; refine QSH.out.mono ?_; clear QSH; rintro e w8 ⟨A8, c8, rfl, ho8, hb8⟩; have fK2 : w8.cell? ⟨gK, 0, none⟩ = some (.int .u8 (kb.toNat : Int)) := (hb8.cell (p := ⟨gK, 0, none⟩) HGK.out).trans fK1; have fB2 : w8.cell? ⟨gB, oB, none⟩ = some (.slice A7 n7 c7) := (hb8.cell (p := ⟨gB, oB, none⟩) HGB.out).trans fB1; have hcv3 : (convert 23 9 (.slice A7 n7 c7)).run Tryd.prog w8 = .ok (.string (str l)) w8 := conv_str ((HB7.out.draws 1).below hb8) c7; have hcv4 : (convert 23 9 (.slice A n c)).run Tryd.prog w8 = .ok (.string (str l)) w8 := conv_str ((HR6.out.draws 1).below (hb8.mono hz6)) c))
      go_wp2
      go_ret
      exact ⟨by simp; exact (IntWalk.i64_in _ (by omega)).symm, HB6.out.drew.trans (hb8.mono hz6)⟩
    · go_wp2_with fail
      refine (jCrash w4 w0.heap.size C4 _ HJ4.out (by simp only [fput_len]; omega) ((n2 : Int) + 7)).mono ?_
      rintro e w5 ⟨⟨v5, rfl⟩, hJ5, hK5⟩
      have hm := HM7.out ((n2 : Int) + 7) (Int.le_refl _)
      rw [show (⟨fput kb l, fput kb l2, -1, false⟩ : JV).crash ((n2 : Int) + 7) = ⟨fput kb l ++ (fput kb l2).take (keepN ((n2 : Int) + 7) ⟨fput kb l, fput kb l2, -1, false⟩), [], -1, true⟩ from rfl] at hJ5
      generalize keepN ((n2 : Int) + 7) ⟨fput kb l, fput kb l2, -1, false⟩ = m at hm hJ5
      have hD5 := since_ge (w := w4) (w' := w5) hC4 hs4
      have HB5 := Lib.hid (HB4.out.trans (hK5.below (B := w.heap.size) hs4 (fun q _ hq => hC4 q hq)))
      have hs5 := HB5.out.size
      have HO5 := Lib.hid (lost_open kb l l2 [] m true hn0 hn2 hm)
      have HL5 := Lib.hid (show (⟨fput kb l ++ (fput kb l2).take m, [], -1, true⟩ : JV).kept.length ≤ 40000000000000 by simp only [List.length_append, List.length_take, fput_len]; omega)
      have HF5 := Lib.hid (show -9223372036854775808 ≤ (⟨fput kb l ++ (fput kb l2).take m, [], -1, true⟩ : JV).fuse ∧ (⟨fput kb l ++ (fput kb l2).take m, [], -1, true⟩ : JV).fuse ≤ 9223372036854775807 from ⟨(by decide : (-9223372036854775808 : Int) ≤ -1), (by decide : (-1 : Int) ≤ 9223372036854775807)⟩)
      have HJ5 := Lib.hid hJ5
      clear hJ5 hK5 HM7
      generalize since w4 C4 w5 = C5 at *
      generalize (⟨fput kb l ++ (fput kb l2).take m, [], -1, true⟩ : JV) = J5 at *
      go_wp2_with fail
      refine (jOpen w5 (by omega) (HT.out.below HB5.out hw) w0.heap.size C5 J5 HJ5.out (fun q hq => by have := hD5 q hq; omega) HL5.out HF5.out).mono ?_
      rintro e w7 ⟨w6, AK, nK, cK, AB, nB, cB, rfl, hK5, hC5, hK6, hJ6⟩
      rw [HO5.out] at hC5 hJ6 ⊢
      have hcol := hC5.keptC hK6 (fun q hq => .inl (by
        obtain ⟨_, _, _, _, _, _, hh⟩ := HJ5.out
        exact hh.bd q hq))
      have HB6 := Lib.hid (HB5.out.trans (((hK5.trans hK6 (fun _ _ hc => hc)).below (B := w.heap.size) hs5 (fun q _ hc => hD5 q hc))))
      simp only [List.map_cons, List.map_nil] at hcol ⊢
      obtain ⟨h1, h2⟩ := hcol.count
      simp only [List.length_cons, List.length_nil, Nat.zero_add] at h1 h2
      subst h1 h2
      obtain ⟨gK, rfl, _, hgK, _⟩ := hcol.kinds.form_pos (by omega)
      have fK := hcol.kinds.cellD 0 (by omega)
      rw [show ([kb] : List UInt8).getD 0 0 = kb from rfl] at fK
      obtain ⟨gB, oB, A7, n7, c7, rfl, hgB, fB, hb7⟩ := hcol.lists.2 0 l rfl
      have fB' : w7.cell? ⟨gB, oB, none⟩ = some (.slice A7 n7 c7) := fB
      have hz6 := HB6.out.size
      have QS := jSynced w7.drew w0.heap.size _ _ (hJ6.later (Below.refl _ w7).drew) (by simp only [fput_len]; omega)
      rw [show (⟨fput kb l, [], -1, false⟩ : JV).kept.length = n + 8 by simp only [fput_len]; omega] at QS
      have QSH := Lib.hid QS
      have HB7 := Lib.hid hb7
      have HR6 := Lib.hid (HR.out.below HB6.out)
      have hcv1 : (convert 23 9 (.slice A7 n7 c7)).run Tryd.prog w7.drew = .ok (.string (str l)) w7.drew := conv_str (hb7.draws 1) c7
      have hcv2 : (convert 23 9 (.slice A n c)).run Tryd.prog w7.drew = .ok (.string (str l)) w7.drew := conv_str ((HR.out.below HB6.out).draws 1) c
      have fK1 : w7.drew.cell? ⟨gK, 0, none⟩ = some (.int .u8 (kb.toNat : Int)) := fK
      have fB1 : w7.drew.cell? ⟨gB, oB, none⟩ = some (.slice A7 n7 c7) := fB
      have HGK : Hid (gK < w7.drew.heap.size) := Lib.hid hgK
      have HGB : Hid (gB < w7.drew.heap.size) := Lib.hid hgB
      clear hcol hC5 hK5 hK6 hJ6 fB fK hb7 QS fB' hgK hgB
      go_wp2_with fail
      go_region_held3 (fun w' => w'.cell? ⟨gK, 0, none⟩ = some (.int .u8 (kb.toNat : Int)) ∧ w'.cell? ⟨gB, oB, none⟩ = some (.slice A7 n7 c7) ∧ (convert 23 9 (.slice A7 n7 c7)).run Tryd.prog w' = .ok (.string (str l)) w' ∧ (convert 23 9 (.slice A n c)).run Tryd.prog w' = .ok (.string (str l)) w')
        ((first | assumption | trivial))
        ((go_at_call 60; refine QSH.out.mono ?_; clear QSH; rintro e w8 ⟨A8, c8, rfl, ho8, hb8⟩; have fK2 : w8.cell? ⟨gK, 0, none⟩ = some (.int .u8 (kb.toNat : Int)) := (hb8.cell (p := ⟨gK, 0, none⟩) HGK.out).trans fK1; have fB2 : w8.cell? ⟨gB, oB, none⟩ = some (.slice A7 n7 c7) := (hb8.cell (p := ⟨gB, oB, none⟩) HGB.out).trans fB1; have hcv3 : (convert 23 9 (.slice A7 n7 c7)).run Tryd.prog w8 = .ok (.string (str l)) w8 := conv_str ((HB7.out.draws 1).below hb8) c7; have hcv4 : (convert 23 9 (.slice A n c)).run Tryd.prog w8 = .ok (.string (str l)) w8 := conv_str ((HR6.out.draws 1).below (hb8.mono hz6)) c))
      go_wp2
      go_ret
      exact ⟨by simp; exact (IntWalk.i64_in _ (by omega)).symm, HB6.out.drew.trans (hb8.mono hz6)⟩
end Go.Proofs.YtddcfgbembjbhaaDoor
