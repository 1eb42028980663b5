/- The statement of JournalPlays: the row over its walk, and the card. -/
import Derived.Test.YtddcfgbembjbhaaDoorWJournalPlays
import Derived.Test.YtddcfgbembjbhaaDoorOpen
import Derived.Test.YtddcfgbembjbhaaDoorOpenOps
import Derived.Test.YtddcfgbembjbhaaDoorHead
namespace Go.Proofs.YtddcfgbembjbhaaDoor.rowJournalPlays
open Go.ChangeShapes Go.WideShapes Go.ChangeAt Go.RowKit
set_option linter.unusedVariables false

set_option maxRecDepth 100000 in
theorem contract (H : Type) (enc : TypeId × Value → H) (W : World) (base : Nat) (args : Array Value) (ds gs : List (DataW H)) (before : List MemPlace)
    (hval : ∀ (j : Nat) t v, Tryd.f28.params[j]? = some t → args[j]? = some v → Value.okWide Tryd.prog W .any base t v)
    (hW : DataW.Whole enc Tryd.prog Tryd.f28.params.toList Rows.journalPlaysSpec.vars false W args.toList ds gs before) (hL : laidMetH Tryd.prog Rows.journalPlaysRow.laid W)
    (hz : (DataW.weightsEach Tryd.prog (Tryd.f28.params.toList ++ []) (ds ++ gs)).all (· ≤ reachBytes) = true) (hg0 : 0 < W.heap.size) :
    Calls Tryd.prog 28 args W fun e W' => ∃ v, e = .returned v ∧ Rows.journalPlaysSpec.post enc Tryd.prog Tryd.f28 false true false false W args v W' := by
  have hW' := hW
  obtain ⟨p, q, hA0, hV, rfl, hfz, hnd⟩ := hW
  have hA : DataW.TrodAll enc Tryd.prog W 0 (fun _ => true) true Tryd.f28.params.toList args.toList ds p := hA0
  rw [Tryd.params28] at hA hval hz
  obtain ⟨v0, vs0, d0, ds0, p0, q0, hargs, rfl, rfl, h0, r0⟩ := trodAll_cons hA
  obtain ⟨rfl, rfl, rfl⟩ := trodAll_nil r0
  obtain rfl : args = #[v0] := by cases args; simp_all
  obtain ⟨rfl, rfl⟩ := trodVars_none hV
  simp only [List.append_nil] at hz
  have k0 := h0
  have lt0 : ∀ x ∈ p0, x.block < W.heap.size := by obtain ⟨m, hm⟩ := k0; exact DataW.trod_lt m _ _ _ hm
  obtain ⟨A0, n0, c0, rfl⟩ := okWide_slice Tryd.underlying77 (hval 0 77 v0 rfl rfl)
  have hs0 := weights_of (j := 0) hz rfl rfl
  obtain ⟨l0, hl0, hc0, hm0⟩ := open_ops h0 hs0
  clear hA0
  refine (walkJournalPlays W hg0 (four_of_laid hL) A0 n0 c0 l0 hl0 hc0 hm0).mono fun e W' ⟨he, bel⟩ => ?_
  subst he
  exact ⟨_, rfl, _, _, _, [], _, [], hW', trodAll_mk1 (shut_bool Tryd.underlying4 _), (trodAll_cons_mk (Below.trod laidOut (by kernel_rfl) (of_decide_eq_true (by kernel_rfl)) k0 bel lt0) trodAll_mk0), rfl, bel.frame _, fun h => by cases h⟩

def wargs : Array Value := #[.slice none 0 0]
theorem laid_met (os : Os) : laidMet Tryd.prog Rows.journalPlaysRow.laid ((laidWorld os).forCall (fun _ _ => 0) ⟨#[], wargs, []⟩).memory :=
  laidMet_of_run' 8 (by kernel_rfl) (by kernel_rfl)
theorem reads (os : Os) {H : Type} (enc : TypeId × Value → H) : ∃ places, DataW.whole enc Tryd.prog ((laidWorld os).forCall (fun _ _ => 0) ⟨#[], wargs, []⟩).memory Tryd.f28.params.toList Rows.journalPlaysSpec.vars false wargs.toList 8 = some ([.nil], [], places) :=
  ⟨[], by kernel_rfl⟩

set_option maxRecDepth 100000 in
theorem lifted (os : Os) (started : os.Started) (H : Type) (enc : TypeId × Value → H) (F : Stop.Interp) :
    ReturnsInHanded {} Tryd.checked os 28 .any ((OpenSpec.ofChange Rows.journalPlaysSpec).preRow enc Tryd.prog Tryd.f28 Rows.journalPlaysRow.domain false Rows.journalPlaysRow.laid) (((OpenSpec.ofChange Rows.journalPlaysSpec).at F).post enc Tryd.prog Tryd.f28 false true false false) := by
  obtain ⟨places, hx⟩ := reads os enc
  refine returnsInHanded_of_row (C := Tryd.checked) (s := (OpenSpec.ofChange Rows.journalPlaysSpec)) own started (by kernel_rfl) Tryd.func28
    (witness_row_at (enc := enc) (C := Tryd.checked) false (laidWorld os) wargs rfl (by kernel_rfl) (by kernel_rfl) (by kernel_rfl)
      (OpenSpec.preRow_of_cond 8 hx (by kernel_rfl) (fun k hk => by cases hk) (by kernel_rfl) (laid_met os))) ?_
  intro W base args ds gs before hval hW _ hcond hz hL hsh _
  exact contract H enc W base args ds gs before hval hW hL hz (heap_pos hL)

theorem closed : joinedFacts Tryd.pinned.checked.prog 28 Tryd.f28 (OpenSpec.ofChange Rows.journalPlaysSpec).bare Rows.journalPlaysRow = true := by
  unfold joinedFacts
  refine and_mk (and_mk (and_mk (and_mk (and_mk (and_mk (and_mk (and_mk (and_mk (and_mk (and_mk (and_mk (and_mk (and_mk (and_mk (and_mk (and_mk (and_mk (and_mk (and_mk (and_mk (and_mk (and_mk (and_mk (and_mk (and_mk (and_mk (and_mk (and_mk (and_mk (and_mk ?h1 ?h2) ?h3) ?h4) ?h5) ?h6) ?h7) ?h8) ?h9) ?h10) ?h11) ?h12) ?h13) ?h14) ?h15) ?h16) ?h17) ?h18) ?h19) ?h20) ?h21) ?h22) ?h23) ?h24) ?h25) ?h26) ?h27) ?h28) ?h29) ?h30) ?h31) ?h32
  case h2 => exact cLaid
  case h3 => exact cMaps
  case h7 => exact cStops
  case h9 => exact cKnobs
  case h25 => exact cHeard
  case h26 => exact cEnter
  case h27 => exact cFinal
  case h28 => exact cMake
  all_goals (as_aux_lemma => kernel_rfl)
theorem said : Rows.JournalPlaysSaid :=
  OpenClaim.holds_of_cond 28 Tryd.f28 rfl rfl rfl rfl rfl rfl rfl ⟨rfl, rfl, rfl, rfl, rfl⟩ rfl rfl rfl rfl rfl (by as_aux_lemma => kernel_rfl) Tryd.func28 closed
    (of_decide_eq_true (by as_aux_lemma => kernel_rfl)) (by unfold Func.isWrapper; rw [if_neg (of_decide_eq_false (by as_aux_lemma => kernel_rfl))]; exact ⟨rfl, rfl⟩)
    (fun os started H enc _ F => by rw [OpenClaim.pre_eq_preRow]; exact lifted os started H enc F)

theorem plain (f : FuncId) (fn : Func) (hf : Tryd.pinned.checked.prog.funcNamed Rows.journalPlaysRow.func = some f) (hfn : Tryd.pinned.checked.prog.funcs[f]? = some fn) :
    false = Tryd.pinned.checked.prog.looks [] ∧ ∀ (j : Nat) t, fn.params[j]? = some t → Tryd.pinned.checked.prog.wantsStandIn t = false := by
  obtain rfl : f = 28 := Option.some.inj ((show Tryd.prog.funcNamed Rows.journalPlaysRow.func = some 28 by kernel_rfl).symm.trans hf) |>.symm
  obtain rfl : fn = Tryd.f28 := (Option.some.inj (Tryd.func28.symm.trans hfn)).symm
  refine ⟨cLooks, fun j t ht => ?_⟩
  rw [Tryd.params28] at ht
  have hm := Array.mem_of_getElem? ht
  simp only [List.mem_toArray, List.mem_cons, List.not_mem_nil, or_false] at hm
  subst hm
  exact (show Tryd.prog.wantsStandIn 77 = false by kernel_rfl)

/-- The card. -/
theorem card : Rows.JournalPlaysCardSaid :=
  Claim7.holds_tied_plain_at .later [] _ _ _ _ said (fun _ h => by cases h) (by as_aux_lemma => kernel_rfl) (fun _ h => by cases h) journalPlays_row_tie rfl ⟨rfl, rfl⟩ mainIsIt rfl plain (by as_aux_lemma => kernel_rfl)
end Go.Proofs.YtddcfgbembjbhaaDoor.rowJournalPlays
namespace Go.Proofs.YtddcfgbembjbhaaDoor
theorem journalPlays_card : Rows.JournalPlaysCardSaid := rowJournalPlays.card
#print axioms journalPlays_card
end Go.Proofs.YtddcfgbembjbhaaDoor
