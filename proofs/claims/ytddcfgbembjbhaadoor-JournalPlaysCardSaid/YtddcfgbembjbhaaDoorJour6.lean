/- Journals: Append: walked. -/
import Derived.Test.YtddcfgbembjbhaaDoorJour5
namespace Go.Proofs.YtddcfgbembjbhaaDoor
open Go.RowKit
set_option linter.unusedVariables false
set_option linter.unusedSimpArgs false
set_option maxRecDepth 100000 in
set_option maxHeartbeats 2000000 in
theorem jAppend (w : World) (hw : 0 < w.heap.size) (ht : Four w) (g : Nat) (C : Nat → Prop) (J : JV) (h : JIn w 99 g C J) (hf : -9223372036854775808 ≤ J.fuse ∧ J.fuse ≤ 9223372036854775807) (k : UInt8) (Ab : Option Addr) (nb cb B : Nat) (lb : List UInt8)
    (hr : BytesAt w B Ab nb lb) (hB : B ≤ w.heap.size) (hnb : nb ≤ 140737488351232) (hn : J.rest.length ≤ 140737488300000) :
    Calls Tryd.prog 56 #[.pointer (some ⟨g, 0, none⟩), .int .u8 (k.toNat : Int), .slice Ab nb cb] w fun e w' => e = .returned (.int .i64 (J.append k lb).1) ∧ JIn w' 99 g (since w C w') (J.append k lb).2 ∧ Kept C w w' := by
  obtain ⟨A1, n1, c1, A2, n2, c2, h⟩ := h
  have hbw := (Below.refl w.heap.size w).alloc (Nat.le_refl _) (.cells #[.pointer (some ⟨g, 0, none⟩)] 67)
  have hbx := Boxed.new w 67 (.pointer (some ⟨g, 0, none⟩))
  have hs1 : (w.alloc (.cells #[.pointer (some ⟨g, 0, none⟩)] 67)).heap.size = w.heap.size + 1 := by simp
  have Q40 := Lib.hid (framePut k Ab nb cb lb B (w.alloc (.cells #[.pointer (some ⟨g, 0, none⟩)] 67)) (by omega) (ht.below hbw hw) (hr.below (hbw.mono hB)) (by omega) hnb)
  have hne : w.heap.size ≠ g := fun e => by have := h.lt; omega
  have hlb := hr.1
  have hl2 := h.rest.len
  have H := Lib.hid h
  have HB := Lib.hid hbw
  have HX := Lib.hid hbx
  have HS := Lib.hid hs1
  clear h hr ht hbw hbx hs1
  go_enter Tryd.func56, Tryd.ntmps56
  go_wp2_with fail
  refine Q40.out.mono ?_
  rintro e w1 ⟨A3, n3, c3, rfl, ho3, hb3⟩
  have hb1 := HB.out.trans (hb3.mono (by have := HS.out; omega))
  have hz1 := hb3.size
  have hx1 := boxed_later HX.out hb3
  have f1 := hx1.cell
  have H1 := Lib.hid (H.out.later hb1)
  have HB1 := Lib.hid hb1
  have HX1 := Lib.hid hx1
  by_cases h8 : 8192 < lb.length
  · have hE : putE lb = 2 := by unfold putE; rw [if_pos h8]
    rw [hE]
    have HA := Lib.hid (show J.append k lb = (2, J) by unfold JV.append; rw [if_pos h8])
    clear ho3 hb3 hb1 hx1
    go_wp2
    go_ret
    refine ⟨by rw [HA.out]; rfl, ⟨A1, n1, c1, A2, n2, c2, ?_⟩, ?_⟩
    · rw [HA.out]
      exact (H1.out.later ((Below.refl _ w1).alloc (Nat.le_refl _) _)).to_ w
    · exact (Kept.of_below HB1.out).alloc _
  · have hE : putE lb = 0 := by unfold putE; rw [if_neg h8]
    have hP : putB k lb = fput k lb := by unfold putB; rw [if_neg h8]
    rw [hE]
    rw [hP] at ho3
    have hn3 : n3 = lb.length + 8 := by rw [← ho3.len, fput_len]
    have hbw2 := (Below.refl w1.heap.size w1).alloc (Nat.le_refl _) (.cells #[.slice A3 n3 c3] 23)
    have hb2 := HB1.out.trans (hbw2.mono HB1.out.size)
    have h2 := H1.out.later hbw2
    have hx2 := boxed_later HX1.out hbw2
    have hy2 := Boxed.new w1 23 (.slice A3 n3 c3)
    have hney : w1.heap.size ≠ g := fun e => by have := H.out.lt; have := HB1.out.size; omega
    have ho2 := ho3.later hbw2
    have hrow : ∀ q, C q → A3.map (·.block) ≠ some q := fun q hq e => by
      have h3 := H.out.bd q hq
      rcases ho3.map_form with e' | ⟨q', _, e', hb, _⟩
      · rw [e] at e'; cases e'
      · rw [e] at e'; cases e'; have := HS.out; omega
    have hin := H.out.in0
    have hsz2 : (w1.alloc (.cells #[.slice A3 n3 c3] 23)).heap.size = w1.heap.size + 1 := by simp
    have Q := Lib.hid (effect79 (w1.alloc (.cells #[.slice A3 n3 c3] 23)) g w.heap.size w1.heap.size C J A1 n1 c1 A2 n2 c2 h2 hf (fun W' => (∃ A c, JAt W' 99 g (since w C W') { J.eff.2 with rest := J.rest ++ fput k lb } A1 n1 c1 A (n2 + n3) c) ∧ Kept C w W') (fun h0 W hJ hK => by
      have hs := hK.size
      have hkw : Kept C w W := (Kept.of_below hb2).trans hK (fun i _ e => e ▸ hin)
      refine (doAppend W g w.heap.size w1.heap.size C J.eff.2 A1 n1 c1 A2 n2 c2 A3 n3 c3 _ (fput k lb) hJ (boxed_kept hx2 hK hne) (boxed_kept hy2 hK hney) (bytes_kept ho2.bytes (Nat.le_refl _) hK (fun q e => hrow q (e ▸ hin))) (by omega)).mono ?_
      rintro e W' ⟨hv, ⟨A, c, hA⟩, hKW⟩
      rw [(eff_rest J).1] at hA
      exact ⟨hv, ⟨A, c, hA.from_ hkw.size⟩, hkw.trans hKW (fun _ _ hc => hc)⟩))
    have HB2 := Lib.hid hb2
    have f2 := hx2.cell
    clear hn3 ho3 hb3 hb1 hx1 h2 hx2 hy2 ho2 hbw2 hb2
    go_wp2_with fail
    refine Q.out.mono ?_
    rintro e w' (⟨h1, rfl, hJ, hK⟩ | ⟨h1, rfl, hJ, hK⟩)
    · have HA := Lib.hid (show J.append k lb = J.eff by unfold JV.append; rw [if_neg h8, if_neg (by rw [h1]; decide)])
      have H9 := Lib.hid h1
      have HJ := Lib.hid (hJ.to_ w)
      have HK := Lib.hid ((Kept.of_below HB2.out : Kept C w _).trans hK (fun _ _ hc => hc))
      clear hJ hK h1
      go_wp2
      go_ret
      refine ⟨by rw [HA.out, H9.out]; rfl, ⟨_, _, _, _, _, _, by rw [HA.out]; exact HJ.out⟩, HK.out⟩
    · obtain ⟨A, c, hA⟩ := hJ
      have HA := Lib.hid (show J.append k lb = (0, { J.eff.2 with rest := J.rest ++ fput k lb }) by unfold JV.append; rw [if_neg h8, if_pos h1])
      have HJ := Lib.hid hA
      have HK := Lib.hid hK
      clear hA hK h1
      go_wp2
      go_ret
      refine ⟨by rw [HA.out]; rfl, ⟨_, _, _, _, _, _, by rw [HA.out]; exact HJ.out⟩, HK.out⟩
end Go.Proofs.YtddcfgbembjbhaaDoor
