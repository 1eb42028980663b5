/- Journals: New, Fuse, Down, Append, Sync, Effect: walked. -/
import Derived.Test.YtddcfgbembjbhaaDoorJour3
namespace Go.Proofs.YtddcfgbembjbhaaDoor
open Go.RowKit
set_option linter.unusedVariables false
set_option linter.unusedSimpArgs false
section
variable {w w' W : World} {t : TypeId} {g : Nat} {C : Nat → Prop} {J : JV} {A1 A2 : Option Addr} {n1 c1 n2 c2 : Nat}
theorem JAt.from_ (h : JAt w' t g (since W C w') J A1 n1 c1 A2 n2 c2) (hs : w.heap.size ≤ W.heap.size) : JAt w' t g (since w C w') J A1 n1 c1 A2 n2 c2 :=
  h.more (fun k hk => hk.imp id (fun ⟨a, b⟩ => ⟨Nat.le_trans hs a, b⟩)) (fun k hk => hk.elim (fun hc => h.bd k (.inl hc)) (fun h => h.2))
theorem JAt.to_ (w : World) (h : JAt w' t g C J A1 n1 c1 A2 n2 c2) : JAt w' t g (since w C w') J A1 n1 c1 A2 n2 c2 :=
  h.more (fun k hk => .inl hk) (fun k hk => hk.elim (h.bd k) (fun h => h.2))
theorem eff_rest (J : JV) : J.eff.2.rest = J.rest ∧ J.eff.2.kept = J.kept := by
  unfold JV.eff
  split
  · exact ⟨rfl, rfl⟩
  · split
    · exact ⟨rfl, rfl⟩
    · split <;> exact ⟨rfl, rfl⟩
end
/-- A call of a journal: its error, the journal behind it; other blocks are left alone. -/
def Jd (t : TypeId) (w : World) (g : Nat) (C : Nat → Prop) (J : JV) (e : Ending) (r : Ending) (w' : World) : Prop := e = r ∧ JIn w' t g (since w C w') J ∧ Kept C w w'
set_option maxRecDepth 100000 in
set_option maxHeartbeats 2000000 in
theorem jNew (w : World) : Calls Tryd.prog 55 #[] w fun e w' => e = .returned (.pointer (some ⟨w.heap.size, 0, none⟩)) ∧ JIn w' 99 w.heap.size (fun k => k = w.heap.size) JV.new ∧ Below w.heap.size w w' := by
  go_enter Tryd.func55, Tryd.ntmps55
  go_wp2
  go_ret
  refine ⟨rfl, ⟨none, 0, 0, none, 0, 0, heap_alloc_new w _, OwnB.nil _ _, OwnB.nil _ _, rfl, fun k hk => (by simp at hk), fun k hk => (by simp at hk), fun k hk => (by simp at hk), fun k hk => (by subst hk; simp)⟩, (Below.refl _ w).alloc (Nat.le_refl _) _⟩
set_option maxRecDepth 100000 in
set_option maxHeartbeats 2000000 in
theorem jDown (w : World) (g : Nat) (C : Nat → Prop) (J : JV) (h : JIn w 99 g C J) : Calls Tryd.prog 65 #[.pointer (some ⟨g, 0, none⟩)] w fun e w' => e = .returned (.bool J.down) ∧ w' = w := by
  obtain ⟨A1, n1, c1, A2, n2, c2, h⟩ := h
  have e3 := h.cell3
  clear h
  go_enter Tryd.func65, Tryd.ntmps65
  go_wp2
  go_ret
  exact ⟨rfl, rfl⟩
set_option maxRecDepth 100000 in
set_option maxHeartbeats 2000000 in
theorem jEffect (w : World) (g : Nat) (C : Nat → Prop) (J : JV) (h : JIn w 99 g C J) (hf : -9223372036854775808 ≤ J.fuse ∧ J.fuse ≤ 9223372036854775807) :
    Calls Tryd.prog 64 #[.pointer (some ⟨g, 0, none⟩)] w fun e w' => e = .returned (.int .i64 J.eff.1) ∧ JIn w' 99 g (since w C w') J.eff.2 ∧ Kept C w w' := by
  obtain ⟨A1, n1, c1, A2, n2, c2, h⟩ := h
  have Q := Lib.hid (effect82 w g C J A1 n1 c1 A2 n2 c2 h hf (fun W' => JAt W' 99 g C J.eff.2 A1 n1 c1 A2 n2 c2 ∧ Kept C w W') (fun h0 W hJ hK => by
    go_enter Tryd.func82, Tryd.ntmps82
    go_wp2
    go_end0
    exact ⟨⟨_, rfl⟩, hJ, hK.mono (fun k _ e => e ▸ h.in0)⟩))
  clear h
  go_enter Tryd.func64, Tryd.ntmps64
  go_wp2_with fail
  refine Q.out.mono ?_
  rintro e w' (⟨h1, rfl, hJ, hK⟩ | ⟨h1, rfl, hJ, hK⟩)
  · have HJ := Lib.hid hJ
    have HK := Lib.hid hK
    have H1 := Lib.hid h1
    clear hJ hK h1
    go_wp2
    go_ret
    exact ⟨by rw [H1.out]; rfl, ⟨_, _, _, _, _, _, HJ.out.to_ w⟩, HK.out⟩
  · have HJ := Lib.hid hJ
    have HK := Lib.hid hK
    have H1 := Lib.hid h1
    clear hJ hK h1
    go_wp2
    go_ret
    exact ⟨by rw [H1.out]; rfl, ⟨_, _, _, _, _, _, HJ.out.to_ w⟩, HK.out⟩
end Go.Proofs.YtddcfgbembjbhaaDoor
