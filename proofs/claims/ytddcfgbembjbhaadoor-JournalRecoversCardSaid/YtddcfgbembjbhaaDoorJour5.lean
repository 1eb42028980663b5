/- Journals: Append, Sync: walked. -/
import Derived.Test.YtddcfgbembjbhaaDoorJour4
namespace Go.Proofs.YtddcfgbembjbhaaDoor
open Go.RowKit
set_option linter.unusedVariables false
set_option linter.unusedSimpArgs false
theorem boxed_kept {W W' : World} {B g : Nat} {t : TypeId} {v : Value} (h : Boxed W B t v) (hK : Kept (fun k => k = g) W W') (hne : B ≠ g) : Boxed W' B t v := (hK.block B h.lt hne).trans h
theorem bytes_kept {W W' : World} {B n : Nat} {C : Nat → Prop} {A : Option Addr} {l : List UInt8} (h : BytesAt W B A n l) (hB : B ≤ W.heap.size) (hK : Kept C W W') (hne : ∀ k, C k → A.map (·.block) ≠ some k) : BytesAt W' B A n l :=
  ⟨h.1, fun hn => by
    obtain ⟨b, o, rfl, hb, hc⟩ := h.2 hn
    exact ⟨b, o, rfl, hb, fun j hj => (World.cell?_of_block (hK.block b (by omega) (fun hcb => hne b hcb rfl))).trans (hc j hj)⟩⟩
set_option maxRecDepth 100000 in
set_option maxHeartbeats 2000000 in
theorem jSync (w : World) (g : Nat) (C : Nat → Prop) (J : JV) (h : JIn w 99 g C J) (hf : -9223372036854775808 ≤ J.fuse ∧ J.fuse ≤ 9223372036854775807) (hn : J.kept.length + J.rest.length ≤ 140737488355328) :
    Calls Tryd.prog 57 #[.pointer (some ⟨g, 0, none⟩)] w fun e w' => e = .returned (.int .i64 J.sync.1) ∧ JIn w' 99 g (since w C w') J.sync.2 ∧ Kept C w w' := by
  obtain ⟨A1, n1, c1, A2, n2, c2, h⟩ := h
  have hbw := (Below.refl w.heap.size w).alloc (Nat.le_refl _) (.cells #[.pointer (some ⟨g, 0, none⟩)] 67)
  have h2 := h.later hbw
  have hbx := Boxed.new w 67 (.pointer (some ⟨g, 0, none⟩))
  have hne : w.heap.size ≠ g := fun e => by have := h.lt; omega
  have hl1 := h.kept.len
  have hl2 := h.rest.len
  have hin := h.in0
  have Q := Lib.hid (effect80 (w.alloc (.cells #[.pointer (some ⟨g, 0, none⟩)] 67)) g w.heap.size C J A1 n1 c1 A2 n2 c2 h2 hf (fun W' => (∃ A c, JAt W' 99 g (since w C W') { J.eff.2 with kept := J.kept ++ J.rest, rest := [] } A (n1 + n2) c none 0 0) ∧ Kept C w W') (fun h0 W hJ hK => by
    have hs := hK.size
    have hkw : Kept C w W := (Kept.of_below hbw).trans hK (fun i _ e => e ▸ hin)
    refine (doSync W g w.heap.size C J.eff.2 A1 n1 c1 A2 n2 c2 hJ (boxed_kept hbx hK hne) (by omega)).mono ?_
    rintro e W' ⟨hv, ⟨A, c, hA⟩, hKW⟩
    rw [(eff_rest J).1, (eff_rest J).2] at hA
    exact ⟨hv, ⟨A, c, hA.from_ hkw.size⟩, hkw.trans hKW (fun _ _ hc => hc)⟩))
  have HB := Lib.hid hbw
  clear h h2 hbx hbw
  generalize hw1 : w.alloc (.cells #[.pointer (some ⟨g, 0, none⟩)] 67) = w1 at *
  have hcell : w1.cell? ⟨w.heap.size, 0, none⟩ = some (.pointer (some ⟨g, 0, none⟩)) := by rw [← hw1]; exact (Boxed.new w 67 _).cell
  clear hcell
  subst hw1
  go_enter Tryd.func57, Tryd.ntmps57
  go_wp2_with fail
  refine Q.out.mono ?_
  rintro e w' (⟨h1, rfl, hJ, hK⟩ | ⟨h1, rfl, hJ, hK⟩)
  · have HJ := Lib.hid (show JAt w' 99 g (since w C w') J.sync.2 A1 n1 c1 A2 n2 c2 by
      unfold JV.sync; rw [if_neg (by rw [h1]; decide)]; exact hJ.to_ w)
    have HK := Lib.hid ((Kept.of_below HB.out : Kept C w _).trans hK (fun _ _ hc => hc))
    have H1 := Lib.hid (show J.sync.1 = 61 by unfold JV.sync; rw [if_neg (by rw [h1]; decide)]; exact h1)
    clear hJ hK h1
    go_wp2
    go_ret
    exact ⟨by rw [H1.out]; rfl, ⟨_, _, _, _, _, _, HJ.out⟩, HK.out⟩
  · obtain ⟨A, c, hA⟩ := hJ
    have HJ := Lib.hid (show JAt w' 99 g (since w C w') J.sync.2 A (n1 + n2) c none 0 0 by
      unfold JV.sync; rw [if_pos h1]; exact hA)
    have HK := Lib.hid hK
    have H1 := Lib.hid (show J.sync.1 = 0 by unfold JV.sync; rw [if_pos h1])
    clear hA hK h1
    go_wp2
    go_ret
    exact ⟨by rw [H1.out]; rfl, ⟨_, _, _, _, _, _, HJ.out⟩, HK.out⟩
end Go.Proofs.YtddcfgbembjbhaaDoor
