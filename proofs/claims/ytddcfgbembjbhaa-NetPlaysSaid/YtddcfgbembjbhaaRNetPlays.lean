/- The statement of NetPlays: the row over its walk, and the card. -/
import Derived.Test.YtddcfgbembjbhaaWNetPlays
import Derived.Test.YtddcfgbembjbhaaOpen
import Derived.Test.YtddcfgbembjbhaaOpenOps
import Derived.Test.YtddcfgbembjbhaaHead
namespace Go.Proofs.Ytddcfgbembjbhaa.rowNetPlays
open Go.ChangeShapes Go.WideShapes Go.ChangeAt Go.RowKit
set_option linter.unusedVariables false

set_option maxRecDepth 100000 in
theorem contract (H : Type) (enc : TypeId × Value → H) (W : World) (base : Nat) (args : Array Value) (ds gs : List (DataW H)) (before : List MemPlace)
    (hval : ∀ (j : Nat) t v, Try.f4.params[j]? = some t → args[j]? = some v → Value.okWide Try.prog W .any base t v)
    (hW : DataW.Whole enc Try.prog Try.f4.params.toList Rows.netPlaysSpec.vars false W args.toList ds gs before) (hL : laidMetH Try.prog Rows.netPlaysRow.laid W)
    (hz : (DataW.weightsEach Try.prog (Try.f4.params.toList ++ []) (ds ++ gs)).all (· ≤ reachBytes) = true) :
    Calls Try.prog 4 args W fun e W' => ∃ v, e = .returned v ∧ Rows.netPlaysSpec.post enc Try.prog Try.f4 false true false false W args v W' := by
  have hW' := hW
  obtain ⟨p, q, hA0, hV, rfl, hfz, hnd⟩ := hW
  have hA : DataW.TrodAll enc Try.prog W 0 (fun _ => true) true Try.f4.params.toList args.toList ds p := hA0
  rw [Try.params4] at hA hval hz
  obtain ⟨v0, vs0, d0, ds0, p0, q0, hargs, rfl, rfl, h0, r0⟩ := trodAll_cons hA
  obtain ⟨rfl, rfl, rfl⟩ := trodAll_nil r0
  obtain rfl : args = #[v0] := by cases args; simp_all
  obtain ⟨rfl, rfl⟩ := trodVars_none hV
  simp only [List.append_nil] at hz
  have k0 := h0
  have lt0 : ∀ x ∈ p0, x.block < W.heap.size := by obtain ⟨m, hm⟩ := k0; exact DataW.trod_lt m _ _ _ hm
  obtain ⟨A0, n0, c0, rfl⟩ := okWide_slice Try.underlying34 (hval 0 34 v0 rfl rfl)
  have hs0 := weights_of (j := 0) hz rfl rfl
  obtain ⟨l0, hl0, hc0⟩ := open_ops h0 hs0
  clear hA0
  refine (walkNetPlays W A0 n0 c0 l0 hl0 hc0).mono fun e W' ⟨he, bel⟩ => ?_
  subst he
  exact ⟨_, rfl, _, _, _, [], _, [], hW', trodAll_mk1 (shut_bool Try.underlying4 _), (trodAll_cons_mk (Below.trod laidOut (by kernel_rfl) (of_decide_eq_true (by kernel_rfl)) k0 bel lt0) trodAll_mk0), rfl, bel.frame _, fun h => by cases h⟩

def wargs : Array Value := #[.slice none 0 0]
theorem laid_met (os : Os) : laidMet Try.prog Rows.netPlaysRow.laid ((plainWorld os).forCall (fun _ _ => 0) ⟨#[], wargs, []⟩).memory :=
  laidMet_of_run' 8 (by kernel_rfl) (by kernel_rfl)
theorem reads (os : Os) {H : Type} (enc : TypeId × Value → H) : ∃ places, DataW.whole enc Try.prog ((plainWorld os).forCall (fun _ _ => 0) ⟨#[], wargs, []⟩).memory Try.f4.params.toList Rows.netPlaysSpec.vars false wargs.toList 8 = some ([.nil], [], places) :=
  ⟨[], by kernel_rfl⟩

set_option maxRecDepth 100000 in
theorem lifted (os : Os) (started : os.Started) (H : Type) (enc : TypeId × Value → H) (F : Stop.Interp) :
    ReturnsInHanded {} Try.checked os 4 .any ((OpenSpec.ofChange Rows.netPlaysSpec).preRow enc Try.prog Try.f4 Rows.netPlaysRow.domain false Rows.netPlaysRow.laid) (((OpenSpec.ofChange Rows.netPlaysSpec).at F).post enc Try.prog Try.f4 false true false false) := by
  obtain ⟨places, hx⟩ := reads os enc
  refine returnsInHanded_of_row (C := Try.checked) (s := (OpenSpec.ofChange Rows.netPlaysSpec)) own started (by kernel_rfl) Try.func4
    (witness_row_at (enc := enc) (C := Try.checked) false (plainWorld os) wargs rfl (by kernel_rfl) (by kernel_rfl) (by kernel_rfl)
      (OpenSpec.preRow_of_cond 8 hx (by kernel_rfl) (fun k hk => by cases hk) (by kernel_rfl) (laid_met os))) ?_
  intro W base args ds gs before hval hW _ hcond hz hL hsh _
  exact contract H enc W base args ds gs before hval hW hL hz

theorem closed : joinedFacts Try.pinned.checked.prog 4 Try.f4 (OpenSpec.ofChange Rows.netPlaysSpec).bare Rows.netPlaysRow = true := by
  unfold joinedFacts
  refine and_mk (and_mk (and_mk (and_mk (and_mk (and_mk (and_mk (and_mk (and_mk (and_mk (and_mk (and_mk (and_mk (and_mk (and_mk (and_mk (and_mk (and_mk (and_mk (and_mk (and_mk (and_mk (and_mk (and_mk (and_mk (and_mk (and_mk (and_mk (and_mk (and_mk (and_mk ?h1 ?h2) ?h3) ?h4) ?h5) ?h6) ?h7) ?h8) ?h9) ?h10) ?h11) ?h12) ?h13) ?h14) ?h15) ?h16) ?h17) ?h18) ?h19) ?h20) ?h21) ?h22) ?h23) ?h24) ?h25) ?h26) ?h27) ?h28) ?h29) ?h30) ?h31) ?h32
  case h2 => exact cLaid
  case h3 => exact cMaps
  case h7 => exact cStops
  case h9 => exact cKnobs
  case h25 => exact cHeard
  case h26 => exact cEnter
  case h27 => exact cFinal
  case h28 => exact cMake
  all_goals (as_aux_lemma => kernel_rfl)
theorem said : Rows.NetPlaysSaid :=
  OpenClaim.holds_of_cond 4 Try.f4 rfl rfl rfl rfl rfl rfl rfl ⟨rfl, rfl, rfl, rfl, rfl⟩ rfl rfl rfl rfl rfl (by as_aux_lemma => kernel_rfl) Try.func4 closed
    (of_decide_eq_true (by as_aux_lemma => kernel_rfl)) (by unfold Func.isWrapper; rw [if_neg (of_decide_eq_false (by as_aux_lemma => kernel_rfl))]; exact ⟨rfl, rfl⟩)
    (fun os started H enc _ F => by rw [OpenClaim.pre_eq_preRow]; exact lifted os started H enc F)

end Go.Proofs.Ytddcfgbembjbhaa.rowNetPlays
namespace Go.Proofs.Ytddcfgbembjbhaa
theorem netPlays_said : Rows.NetPlaysSaid := rowNetPlays.said
#print axioms netPlays_said
end Go.Proofs.Ytddcfgbembjbhaa
