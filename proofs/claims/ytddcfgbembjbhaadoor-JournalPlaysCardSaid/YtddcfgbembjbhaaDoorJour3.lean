/- Journals: effect, for each of its closures; New, Fuse, Down: walked. -/
import Derived.Test.YtddcfgbembjbhaaDoorJour2
namespace Go.Proofs.YtddcfgbembjbhaaDoor
open Go.RowKit
set_option linter.unusedVariables false
set_option linter.unusedSimpArgs false
theorem eff_down {J : JV} (h : J.down = true) : J.eff = (61, J) := by unfold JV.eff; rw [if_pos h]
theorem eff_zero {J : JV} (h : J.down = false) (h0 : J.fuse = 0) : J.eff = (61, { J with fuse := -1, down := true }) := by unfold JV.eff; rw [if_neg (by rw [h]; simp), if_pos h0]
theorem eff_pos {J : JV} (h : J.down = false) (h0 : 0 < J.fuse) : J.eff = (0, { J with fuse := J.fuse - 1 }) := by unfold JV.eff; rw [if_neg (by rw [h]; simp), if_neg (by omega), if_pos h0]
theorem eff_neg {J : JV} (h : J.down = false) (h0 : J.fuse < 0) : J.eff = (0, J) := by unfold JV.eff; rw [if_neg (by rw [h]; simp), if_neg (by omega), if_neg (by omega)]
/-- How an effect ends: it was not done (the fuse, or the journal is down), or it was. -/
def Effected (w : World) (g : Nat) (C : Nat → Prop) (J : JV) (A1 : Option Addr) (n1 c1 : Nat) (A2 : Option Addr) (n2 c2 : Nat) (R : World → Prop) (e : Ending) (w' : World) : Prop :=
  (J.eff.1 = 61 ∧ e = .returned (.int .i64 61) ∧ JAt w' 99 g C J.eff.2 A1 n1 c1 A2 n2 c2 ∧ Kept C w w') ∨ (J.eff.1 = 0 ∧ e = .returned (.int .i64 0) ∧ R w')
set_option maxRecDepth 100000 in
set_option maxHeartbeats 2000000 in
theorem effect79 (w : World) (g : Nat) (b1 b2 : Nat) (C : Nat → Prop) (J : JV) (A1 : Option Addr) (n1 c1 : Nat) (A2 : Option Addr) (n2 c2 : Nat) (h : JAt w 99 g C J A1 n1 c1 A2 n2 c2) (hf : -9223372036854775808 ≤ J.fuse ∧ J.fuse ≤ 9223372036854775807) (R : World → Prop)
    (hdo : J.eff.1 = 0 → ∀ W, JAt W 99 g C J.eff.2 A1 n1 c1 A2 n2 c2 → Kept (fun k => k = g) w W → Calls Tryd.prog 79 #[.pointer (some ⟨b1, 0, none⟩), .pointer (some ⟨b2, 0, none⟩)] W (fun e W' => (∃ v, e = .returned v) ∧ R W')) :
    Calls Tryd.prog 78 #[.pointer (some ⟨g, 0, none⟩), .func (.func 79) #[] #[.pointer (some ⟨b1, 0, none⟩), .pointer (some ⟨b2, 0, none⟩)]] w (Effected w g C J A1 n1 c1 A2 n2 c2 R) := by
  have e2 := h.cell2
  have e3 := h.cell3
  have z2 := h.frozen 2
  have z3 := h.frozen 3
  have H := Lib.hid h
  have HD := Lib.hid hdo
  have hin := h.in0
  clear h hdo
  cases hd : J.down with
  | true =>
    rw [hd] at e3
    have HE := Lib.hid (eff_down hd)
    clear hd
    go_enter Tryd.func78, Tryd.ntmps78
    go_wp2
    go_ret
    exact .inl ⟨by rw [HE.out], by simp, by rw [HE.out]; exact H.out, Kept.refl _ _⟩
  | false =>
    rw [hd] at e3
    by_cases h0 : J.fuse = 0
    · have HE := Lib.hid (eff_zero hd h0)
      have hJ := (H.out.setDown (by decide) true).setFuse (by decide) (-1)
      have hK : Kept C w ((w.setCell ⟨g, 3, none⟩ (.bool true)).setCell ⟨g, 2, none⟩ (.int .i64 (-1))) := ((Kept.refl C w).setCell (fun _ => hin) _).setCell (fun _ => hin) _
      have HJ := Lib.hid hJ
      have HK := Lib.hid hK
      have e3' := hJ.cell3
      rw [h0] at e2
      clear hd h0 hJ hK
      go_enter Tryd.func78, Tryd.ntmps78
      go_wp2
      go_ret
      exact .inl ⟨by rw [HE.out], by simp, by rw [HE.out]; exact HJ.out, HK.out⟩
    · by_cases hp : 0 < J.fuse
      · have HE := Lib.hid (eff_pos hd hp)
        have HJ := Lib.hid (H.out.setFuse (by decide) (J.fuse - 1))
        have HK := Lib.hid (((Kept.refl (fun k => k = g) w).setCell (fun _ => rfl) (.int .i64 (J.fuse - 1)) : Kept (fun k => k = g) w (w.setCell ⟨g, 2, none⟩ (.int .i64 (J.fuse - 1)))))
        have QD := Lib.hid (HD.out (by rw [HE.out]) (w.setCell ⟨g, 2, none⟩ (.int .i64 (J.fuse - 1))) (by rw [HE.out]; exact HJ.out) HK.out)
        have hwr : IntKind.i64.wrap (J.fuse - 1) = J.fuse - 1 := IntWalk.i64_in _ (by omega)
        generalize J.fuse = f at e2 hp h0 hf hwr QD
        go_enter Tryd.func78, Tryd.ntmps78
        go_wp2_with fail
        refine QD.out.mono ?_
        rintro e W ⟨⟨v, rfl⟩, hR⟩
        have HR := Lib.hid hR
        clear hR
        go_wp2
        go_ret
        exact .inr ⟨by rw [HE.out], by simp, HR.out⟩
      · have HE := Lib.hid (eff_neg hd (by omega))
        have QD := Lib.hid (HD.out (by rw [HE.out]) w (by rw [HE.out]; exact H.out) (Kept.refl _ _))
        generalize J.fuse = f at e2 hp h0 hf QD
        go_enter Tryd.func78, Tryd.ntmps78
        go_wp2_with fail
        refine QD.out.mono ?_
        rintro e W ⟨⟨v, rfl⟩, hR⟩
        have HR := Lib.hid hR
        clear hR
        go_wp2
        go_ret
        exact .inr ⟨by rw [HE.out], by simp, HR.out⟩
set_option maxRecDepth 100000 in
set_option maxHeartbeats 2000000 in
theorem effect80 (w : World) (g : Nat) (b1 : Nat) (C : Nat → Prop) (J : JV) (A1 : Option Addr) (n1 c1 : Nat) (A2 : Option Addr) (n2 c2 : Nat) (h : JAt w 99 g C J A1 n1 c1 A2 n2 c2) (hf : -9223372036854775808 ≤ J.fuse ∧ J.fuse ≤ 9223372036854775807) (R : World → Prop)
    (hdo : J.eff.1 = 0 → ∀ W, JAt W 99 g C J.eff.2 A1 n1 c1 A2 n2 c2 → Kept (fun k => k = g) w W → Calls Tryd.prog 80 #[.pointer (some ⟨b1, 0, none⟩)] W (fun e W' => (∃ v, e = .returned v) ∧ R W')) :
    Calls Tryd.prog 78 #[.pointer (some ⟨g, 0, none⟩), .func (.func 80) #[] #[.pointer (some ⟨b1, 0, none⟩)]] w (Effected w g C J A1 n1 c1 A2 n2 c2 R) := by
  have e2 := h.cell2
  have e3 := h.cell3
  have z2 := h.frozen 2
  have z3 := h.frozen 3
  have H := Lib.hid h
  have HD := Lib.hid hdo
  have hin := h.in0
  clear h hdo
  cases hd : J.down with
  | true =>
    rw [hd] at e3
    have HE := Lib.hid (eff_down hd)
    clear hd
    go_enter Tryd.func78, Tryd.ntmps78
    go_wp2
    go_ret
    exact .inl ⟨by rw [HE.out], by simp, by rw [HE.out]; exact H.out, Kept.refl _ _⟩
  | false =>
    rw [hd] at e3
    by_cases h0 : J.fuse = 0
    · have HE := Lib.hid (eff_zero hd h0)
      have hJ := (H.out.setDown (by decide) true).setFuse (by decide) (-1)
      have hK : Kept C w ((w.setCell ⟨g, 3, none⟩ (.bool true)).setCell ⟨g, 2, none⟩ (.int .i64 (-1))) := ((Kept.refl C w).setCell (fun _ => hin) _).setCell (fun _ => hin) _
      have HJ := Lib.hid hJ
      have HK := Lib.hid hK
      have e3' := hJ.cell3
      rw [h0] at e2
      clear hd h0 hJ hK
      go_enter Tryd.func78, Tryd.ntmps78
      go_wp2
      go_ret
      exact .inl ⟨by rw [HE.out], by simp, by rw [HE.out]; exact HJ.out, HK.out⟩
    · by_cases hp : 0 < J.fuse
      · have HE := Lib.hid (eff_pos hd hp)
        have HJ := Lib.hid (H.out.setFuse (by decide) (J.fuse - 1))
        have HK := Lib.hid (((Kept.refl (fun k => k = g) w).setCell (fun _ => rfl) (.int .i64 (J.fuse - 1)) : Kept (fun k => k = g) w (w.setCell ⟨g, 2, none⟩ (.int .i64 (J.fuse - 1)))))
        have QD := Lib.hid (HD.out (by rw [HE.out]) (w.setCell ⟨g, 2, none⟩ (.int .i64 (J.fuse - 1))) (by rw [HE.out]; exact HJ.out) HK.out)
        have hwr : IntKind.i64.wrap (J.fuse - 1) = J.fuse - 1 := IntWalk.i64_in _ (by omega)
        generalize J.fuse = f at e2 hp h0 hf hwr QD
        go_enter Tryd.func78, Tryd.ntmps78
        go_wp2_with fail
        refine QD.out.mono ?_
        rintro e W ⟨⟨v, rfl⟩, hR⟩
        have HR := Lib.hid hR
        clear hR
        go_wp2
        go_ret
        exact .inr ⟨by rw [HE.out], by simp, HR.out⟩
      · have HE := Lib.hid (eff_neg hd (by omega))
        have QD := Lib.hid (HD.out (by rw [HE.out]) w (by rw [HE.out]; exact H.out) (Kept.refl _ _))
        generalize J.fuse = f at e2 hp h0 hf QD
        go_enter Tryd.func78, Tryd.ntmps78
        go_wp2_with fail
        refine QD.out.mono ?_
        rintro e W ⟨⟨v, rfl⟩, hR⟩
        have HR := Lib.hid hR
        clear hR
        go_wp2
        go_ret
        exact .inr ⟨by rw [HE.out], by simp, HR.out⟩
set_option maxRecDepth 100000 in
set_option maxHeartbeats 2000000 in
theorem effect81 (w : World) (g : Nat) (b1 b2 : Nat) (C : Nat → Prop) (J : JV) (A1 : Option Addr) (n1 c1 : Nat) (A2 : Option Addr) (n2 c2 : Nat) (h : JAt w 99 g C J A1 n1 c1 A2 n2 c2) (hf : -9223372036854775808 ≤ J.fuse ∧ J.fuse ≤ 9223372036854775807) (R : World → Prop)
    (hdo : J.eff.1 = 0 → ∀ W, JAt W 99 g C J.eff.2 A1 n1 c1 A2 n2 c2 → Kept (fun k => k = g) w W → Calls Tryd.prog 81 #[.pointer (some ⟨b1, 0, none⟩), .pointer (some ⟨b2, 0, none⟩)] W (fun e W' => (∃ v, e = .returned v) ∧ R W')) :
    Calls Tryd.prog 78 #[.pointer (some ⟨g, 0, none⟩), .func (.func 81) #[] #[.pointer (some ⟨b1, 0, none⟩), .pointer (some ⟨b2, 0, none⟩)]] w (Effected w g C J A1 n1 c1 A2 n2 c2 R) := by
  have e2 := h.cell2
  have e3 := h.cell3
  have z2 := h.frozen 2
  have z3 := h.frozen 3
  have H := Lib.hid h
  have HD := Lib.hid hdo
  have hin := h.in0
  clear h hdo
  cases hd : J.down with
  | true =>
    rw [hd] at e3
    have HE := Lib.hid (eff_down hd)
    clear hd
    go_enter Tryd.func78, Tryd.ntmps78
    go_wp2
    go_ret
    exact .inl ⟨by rw [HE.out], by simp, by rw [HE.out]; exact H.out, Kept.refl _ _⟩
  | false =>
    rw [hd] at e3
    by_cases h0 : J.fuse = 0
    · have HE := Lib.hid (eff_zero hd h0)
      have hJ := (H.out.setDown (by decide) true).setFuse (by decide) (-1)
      have hK : Kept C w ((w.setCell ⟨g, 3, none⟩ (.bool true)).setCell ⟨g, 2, none⟩ (.int .i64 (-1))) := ((Kept.refl C w).setCell (fun _ => hin) _).setCell (fun _ => hin) _
      have HJ := Lib.hid hJ
      have HK := Lib.hid hK
      have e3' := hJ.cell3
      rw [h0] at e2
      clear hd h0 hJ hK
      go_enter Tryd.func78, Tryd.ntmps78
      go_wp2
      go_ret
      exact .inl ⟨by rw [HE.out], by simp, by rw [HE.out]; exact HJ.out, HK.out⟩
    · by_cases hp : 0 < J.fuse
      · have HE := Lib.hid (eff_pos hd hp)
        have HJ := Lib.hid (H.out.setFuse (by decide) (J.fuse - 1))
        have HK := Lib.hid (((Kept.refl (fun k => k = g) w).setCell (fun _ => rfl) (.int .i64 (J.fuse - 1)) : Kept (fun k => k = g) w (w.setCell ⟨g, 2, none⟩ (.int .i64 (J.fuse - 1)))))
        have QD := Lib.hid (HD.out (by rw [HE.out]) (w.setCell ⟨g, 2, none⟩ (.int .i64 (J.fuse - 1))) (by rw [HE.out]; exact HJ.out) HK.out)
        have hwr : IntKind.i64.wrap (J.fuse - 1) = J.fuse - 1 := IntWalk.i64_in _ (by omega)
        generalize J.fuse = f at e2 hp h0 hf hwr QD
        go_enter Tryd.func78, Tryd.ntmps78
        go_wp2_with fail
        refine QD.out.mono ?_
        rintro e W ⟨⟨v, rfl⟩, hR⟩
        have HR := Lib.hid hR
        clear hR
        go_wp2
        go_ret
        exact .inr ⟨by rw [HE.out], by simp, HR.out⟩
      · have HE := Lib.hid (eff_neg hd (by omega))
        have QD := Lib.hid (HD.out (by rw [HE.out]) w (by rw [HE.out]; exact H.out) (Kept.refl _ _))
        generalize J.fuse = f at e2 hp h0 hf QD
        go_enter Tryd.func78, Tryd.ntmps78
        go_wp2_with fail
        refine QD.out.mono ?_
        rintro e W ⟨⟨v, rfl⟩, hR⟩
        have HR := Lib.hid hR
        clear hR
        go_wp2
        go_ret
        exact .inr ⟨by rw [HE.out], by simp, HR.out⟩
set_option maxRecDepth 100000 in
set_option maxHeartbeats 2000000 in
theorem effect82 (w : World) (g : Nat) (C : Nat → Prop) (J : JV) (A1 : Option Addr) (n1 c1 : Nat) (A2 : Option Addr) (n2 c2 : Nat) (h : JAt w 99 g C J A1 n1 c1 A2 n2 c2) (hf : -9223372036854775808 ≤ J.fuse ∧ J.fuse ≤ 9223372036854775807) (R : World → Prop)
    (hdo : J.eff.1 = 0 → ∀ W, JAt W 99 g C J.eff.2 A1 n1 c1 A2 n2 c2 → Kept (fun k => k = g) w W → Calls Tryd.prog 82 #[] W (fun e W' => (∃ v, e = .returned v) ∧ R W')) :
    Calls Tryd.prog 78 #[.pointer (some ⟨g, 0, none⟩), .func (.func 82) #[] #[]] w (Effected w g C J A1 n1 c1 A2 n2 c2 R) := by
  have e2 := h.cell2
  have e3 := h.cell3
  have z2 := h.frozen 2
  have z3 := h.frozen 3
  have H := Lib.hid h
  have HD := Lib.hid hdo
  have hin := h.in0
  clear h hdo
  cases hd : J.down with
  | true =>
    rw [hd] at e3
    have HE := Lib.hid (eff_down hd)
    clear hd
    go_enter Tryd.func78, Tryd.ntmps78
    go_wp2
    go_ret
    exact .inl ⟨by rw [HE.out], by simp, by rw [HE.out]; exact H.out, Kept.refl _ _⟩
  | false =>
    rw [hd] at e3
    by_cases h0 : J.fuse = 0
    · have HE := Lib.hid (eff_zero hd h0)
      have hJ := (H.out.setDown (by decide) true).setFuse (by decide) (-1)
      have hK : Kept C w ((w.setCell ⟨g, 3, none⟩ (.bool true)).setCell ⟨g, 2, none⟩ (.int .i64 (-1))) := ((Kept.refl C w).setCell (fun _ => hin) _).setCell (fun _ => hin) _
      have HJ := Lib.hid hJ
      have HK := Lib.hid hK
      have e3' := hJ.cell3
      rw [h0] at e2
      clear hd h0 hJ hK
      go_enter Tryd.func78, Tryd.ntmps78
      go_wp2
      go_ret
      exact .inl ⟨by rw [HE.out], by simp, by rw [HE.out]; exact HJ.out, HK.out⟩
    · by_cases hp : 0 < J.fuse
      · have HE := Lib.hid (eff_pos hd hp)
        have HJ := Lib.hid (H.out.setFuse (by decide) (J.fuse - 1))
        have HK := Lib.hid (((Kept.refl (fun k => k = g) w).setCell (fun _ => rfl) (.int .i64 (J.fuse - 1)) : Kept (fun k => k = g) w (w.setCell ⟨g, 2, none⟩ (.int .i64 (J.fuse - 1)))))
        have QD := Lib.hid (HD.out (by rw [HE.out]) (w.setCell ⟨g, 2, none⟩ (.int .i64 (J.fuse - 1))) (by rw [HE.out]; exact HJ.out) HK.out)
        have hwr : IntKind.i64.wrap (J.fuse - 1) = J.fuse - 1 := IntWalk.i64_in _ (by omega)
        generalize J.fuse = f at e2 hp h0 hf hwr QD
        go_enter Tryd.func78, Tryd.ntmps78
        go_wp2_with fail
        refine QD.out.mono ?_
        rintro e W ⟨⟨v, rfl⟩, hR⟩
        have HR := Lib.hid hR
        clear hR
        go_wp2
        go_ret
        exact .inr ⟨by rw [HE.out], by simp, HR.out⟩
      · have HE := Lib.hid (eff_neg hd (by omega))
        have QD := Lib.hid (HD.out (by rw [HE.out]) w (by rw [HE.out]; exact H.out) (Kept.refl _ _))
        generalize J.fuse = f at e2 hp h0 hf QD
        go_enter Tryd.func78, Tryd.ntmps78
        go_wp2_with fail
        refine QD.out.mono ?_
        rintro e W ⟨⟨v, rfl⟩, hR⟩
        have HR := Lib.hid hR
        clear hR
        go_wp2
        go_ret
        exact .inr ⟨by rw [HE.out], by simp, HR.out⟩
end Go.Proofs.YtddcfgbembjbhaaDoor
