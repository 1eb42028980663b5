/- Journals: Fuse, Synced, Tail: walked. -/
import Derived.Test.YtddcfgbembjbhaaDoorJour6
namespace Go.Proofs.YtddcfgbembjbhaaDoor
open Go.RowKit
set_option linter.unusedVariables false
set_option linter.unusedSimpArgs false
set_option maxRecDepth 100000 in
set_option maxHeartbeats 2000000 in
theorem jSynced (w : World) (g : Nat) (C : Nat → Prop) (J : JV) (h : JIn w 99 g C J) (hn : J.kept.length ≤ 140737488351232) :
    Calls Tryd.prog 60 #[.pointer (some ⟨g, 0, none⟩)] w (Copied w J.kept.length J.kept) := by
  obtain ⟨A1, n1, c1, A2, n2, c2, h⟩ := h
  have e0 := h.cell0
  have hl := h.kept.len
  rw [hl] at hn ⊢
  have Q := Lib.hid (clone A1 n1 c1 J.kept w.heap.size w h.kept.bytes (Nat.le_refl _) hn)
  clear h hl
  go_enter Tryd.func60, Tryd.ntmps60
  go_wp2_with fail
  refine Q.out.mono ?_
  rintro e w' ⟨A, c, rfl, ho, hb⟩
  have HO := Lib.hid ho
  have HB := Lib.hid hb
  clear ho hb
  go_wp2
  go_ret
  exact ⟨A, c, rfl, HO.out, HB.out⟩
set_option maxRecDepth 100000 in
set_option maxHeartbeats 2000000 in
theorem jTail (w : World) (g : Nat) (C : Nat → Prop) (J : JV) (h : JIn w 99 g C J) (hn : J.rest.length ≤ 140737488351232) :
    Calls Tryd.prog 61 #[.pointer (some ⟨g, 0, none⟩)] w (Copied w J.rest.length J.rest) := by
  obtain ⟨A1, n1, c1, A2, n2, c2, h⟩ := h
  have e0 := h.cell1
  have hl := h.rest.len
  rw [hl] at hn ⊢
  have Q := Lib.hid (clone A2 n2 c2 J.rest w.heap.size w h.rest.bytes (Nat.le_refl _) hn)
  clear h hl
  go_enter Tryd.func61, Tryd.ntmps61
  go_wp2_with fail
  refine Q.out.mono ?_
  rintro e w' ⟨A, c, rfl, ho, hb⟩
  have HO := Lib.hid ho
  have HB := Lib.hid hb
  clear ho hb
  go_wp2
  go_ret
  exact ⟨A, c, rfl, HO.out, HB.out⟩
set_option maxRecDepth 100000 in
set_option maxHeartbeats 2000000 in
theorem jFuse (w : World) (g : Nat) (C : Nat → Prop) (J : JV) (h : JIn w 99 g C J) (n : Int) :
    Calls Tryd.prog 63 #[.pointer (some ⟨g, 0, none⟩), .int .i64 n] w fun e w' => (∃ v, e = .returned v) ∧ JIn w' 99 g (since w C w') (J.setFuse n) ∧ Kept C w w' := by
  obtain ⟨A1, n1, c1, A2, n2, c2, h⟩ := h
  have e2 := h.cell2
  have z2 := h.frozen 2
  have HJ := Lib.hid (h.setFuse (by decide) (max n (-1)))
  have HK : Hid (Kept C w (w.setCell ⟨g, 2, none⟩ (.int .i64 (max n (-1))))) := Lib.hid ((Kept.refl C w).setCell (fun _ => h.in0) _)
  clear h
  by_cases hn : -1 ≤ n
  · have hm : max n (-1) = n := by omega
    rw [hm] at HJ HK
    have HS := Lib.hid (show J.setFuse n = { J with fuse := n } by unfold JV.setFuse; rw [hm])
    clear hm
    go_enter Tryd.func63, Tryd.ntmps63
    go_wp2
    go_end0
    exact ⟨⟨_, rfl⟩, ⟨_, _, _, _, _, _, by rw [HS.out]; exact HJ.out.to_ w⟩, HK.out⟩
  · have hm : max n (-1) = -1 := by omega
    rw [hm] at HJ HK
    have HS := Lib.hid (show J.setFuse n = { J with fuse := -1 } by unfold JV.setFuse; rw [hm])
    clear hm
    go_enter Tryd.func63, Tryd.ntmps63
    go_wp2
    go_end0
    exact ⟨⟨_, rfl⟩, ⟨_, _, _, _, _, _, by rw [HS.out]; exact HJ.out.to_ w⟩, HK.out⟩
end Go.Proofs.YtddcfgbembjbhaaDoor
