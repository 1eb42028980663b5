/- The statement of JournalFuse: the row over its walk, and the card. -/
import Derived.Test.YtddcfgbembjbhaaDoorWJournalFuse
import Derived.Test.YtddcfgbembjbhaaDoorOpen
import Derived.Test.YtddcfgbembjbhaaDoorOpenOps
import Derived.Test.YtddcfgbembjbhaaDoorHead
namespace Go.Proofs.YtddcfgbembjbhaaDoor.rowJournalFuse
open Go.ChangeShapes Go.WideShapes Go.ChangeAt Go.RowKit
set_option linter.unusedVariables false

set_option maxRecDepth 100000 in
theorem contract (H : Type) (enc : TypeId × Value → H) (W : World) (base : Nat) (args : Array Value) (ds gs : List (DataW H)) (before : List MemPlace)
    (hval : ∀ (j : Nat) t v, Tryd.f26.params[j]? = some t → args[j]? = some v → Value.okWide Tryd.prog W .any base t v)
    (hW : DataW.Whole enc Tryd.prog Tryd.f26.params.toList Rows.journalFuseSpec.vars false W args.toList ds gs before) (hL : laidMetH Tryd.prog Rows.journalFuseRow.laid W)
    (hz : (DataW.weightsEach Tryd.prog (Tryd.f26.params.toList ++ []) (ds ++ gs)).all (· ≤ reachBytes) = true) (hg0 : 0 < W.heap.size) :
    Calls Tryd.prog 26 args W fun e W' => ∃ v, e = .returned v ∧ Rows.journalFuseSpec.post enc Tryd.prog Tryd.f26 false true false false W args v W' := by
  have hW' := hW
  obtain ⟨p, q, hA0, hV, rfl, hfz, hnd⟩ := hW
  have hA : DataW.TrodAll enc Tryd.prog W 0 (fun _ => true) true Tryd.f26.params.toList args.toList ds p := hA0
  rw [Tryd.params26] at hA hval hz
  obtain ⟨v0, vs0, d0, ds0, p0, q0, hargs, rfl, rfl, h0, r0⟩ := trodAll_cons hA
  obtain ⟨v1, vs1, d1, ds1, p1, q1, rfl, rfl, rfl, h1, r1⟩ := trodAll_cons r0
  obtain ⟨rfl, rfl, rfl⟩ := trodAll_nil r1
  obtain rfl : args = #[v0, v1] := by cases args; simp_all
  obtain ⟨rfl, rfl⟩ := trodVars_none hV
  simp only [List.append_nil] at hz
  have k0 := h0
  have lt0 : ∀ x ∈ p0, x.block < W.heap.size := by obtain ⟨m, hm⟩ := k0; exact DataW.trod_lt m _ _ _ hm
  obtain ⟨x0, rfl, rfl, rfl, wx0⟩ := open_int Tryd.underlying5 (hval 0 5 v0 rfl rfl) h0
  have k1 := h1
  have lt1 : ∀ x ∈ p1, x.block < W.heap.size := by obtain ⟨m, hm⟩ := k1; exact DataW.trod_lt m _ _ _ hm
  obtain ⟨A1, n1, c1, rfl⟩ := okWide_slice Tryd.underlying77 (hval 1 77 v1 rfl rfl)
  have hs1 := weights_of (j := 1) hz rfl rfl
  obtain ⟨l1, hl1, hc1, hm1⟩ := open_ops h1 hs1
  clear hA0
  refine (walkJournalFuse W hg0 (four_of_laid hL) x0 (bounds_u8 wx0) A1 n1 c1 l1 hl1 hc1 hm1).mono fun e W' ⟨he, bel⟩ => ?_
  subst he
  exact ⟨_, rfl, _, _, _, [], _, [], hW', trodAll_mk1 (shut_bool Tryd.underlying4 _), (trodAll_cons_mk (Below.trod laidOut (by kernel_rfl) (of_decide_eq_true (by kernel_rfl)) k0 bel lt0) (trodAll_cons_mk (Below.trod laidOut (by kernel_rfl) (of_decide_eq_true (by kernel_rfl)) k1 bel lt1) trodAll_mk0)), rfl, bel.frame _, fun h => by cases h⟩

def wargs : Array Value := #[.int .u8 0, .slice none 0 0]
theorem laid_met (os : Os) : laidMet Tryd.prog Rows.journalFuseRow.laid ((laidWorld os).forCall (fun _ _ => 0) ⟨#[], wargs, []⟩).memory :=
  laidMet_of_run' 8 (by kernel_rfl) (by kernel_rfl)
theorem reads (os : Os) {H : Type} (enc : TypeId × Value → H) : ∃ places, DataW.whole enc Tryd.prog ((laidWorld os).forCall (fun _ _ => 0) ⟨#[], wargs, []⟩).memory Tryd.f26.params.toList Rows.journalFuseSpec.vars false wargs.toList 8 = some ([.lit (.int .u8 0), .nil], [], places) :=
  ⟨[], by kernel_rfl⟩

set_option maxRecDepth 100000 in
theorem lifted (os : Os) (started : os.Started) (H : Type) (enc : TypeId × Value → H) (F : Stop.Interp) :
    ReturnsInHanded {} Tryd.checked os 26 .any ((OpenSpec.ofChange Rows.journalFuseSpec).preRow enc Tryd.prog Tryd.f26 Rows.journalFuseRow.domain false Rows.journalFuseRow.laid) (((OpenSpec.ofChange Rows.journalFuseSpec).at F).post enc Tryd.prog Tryd.f26 false true false false) := by
  obtain ⟨places, hx⟩ := reads os enc
  refine returnsInHanded_of_row (C := Tryd.checked) (s := (OpenSpec.ofChange Rows.journalFuseSpec)) own started (by kernel_rfl) Tryd.func26
    (witness_row_at (enc := enc) (C := Tryd.checked) false (laidWorld os) wargs rfl (by kernel_rfl) (by kernel_rfl) (by kernel_rfl)
      (OpenSpec.preRow_of_cond 8 hx (by kernel_rfl) (fun k hk => by cases hk) (by kernel_rfl) (laid_met os))) ?_
  intro W base args ds gs before hval hW _ hcond hz hL hsh _
  exact contract H enc W base args ds gs before hval hW hL hz (heap_pos hL)

theorem closed : joinedFacts Tryd.pinned.checked.prog 26 Tryd.f26 (OpenSpec.ofChange Rows.journalFuseSpec).bare Rows.journalFuseRow = true := by
  unfold joinedFacts
  refine and_mk (and_mk (and_mk (and_mk (and_mk (and_mk (and_mk (and_mk (and_mk (and_mk (and_mk (and_mk (and_mk (and_mk (and_mk (and_mk (and_mk (and_mk (and_mk (and_mk (and_mk (and_mk (and_mk (and_mk (and_mk (and_mk (and_mk (and_mk (and_mk (and_mk (and_mk ?h1 ?h2) ?h3) ?h4) ?h5) ?h6) ?h7) ?h8) ?h9) ?h10) ?h11) ?h12) ?h13) ?h14) ?h15) ?h16) ?h17) ?h18) ?h19) ?h20) ?h21) ?h22) ?h23) ?h24) ?h25) ?h26) ?h27) ?h28) ?h29) ?h30) ?h31) ?h32
  case h2 => exact cLaid
  case h3 => exact cMaps
  case h7 => exact cStops
  case h9 => exact cKnobs
  case h25 => exact cHeard
  case h26 => exact cEnter
  case h27 => exact cFinal
  case h28 => exact cMake
  all_goals (as_aux_lemma => kernel_rfl)
theorem said : Rows.JournalFuseSaid :=
  OpenClaim.holds_of_cond 26 Tryd.f26 rfl rfl rfl rfl rfl rfl rfl ⟨rfl, rfl, rfl, rfl, rfl⟩ rfl rfl rfl rfl rfl (by as_aux_lemma => kernel_rfl) Tryd.func26 closed
    (of_decide_eq_true (by as_aux_lemma => kernel_rfl)) (by unfold Func.isWrapper; rw [if_neg (of_decide_eq_false (by as_aux_lemma => kernel_rfl))]; exact ⟨rfl, rfl⟩)
    (fun os started H enc _ F => by rw [OpenClaim.pre_eq_preRow]; exact lifted os started H enc F)

theorem plain (f : FuncId) (fn : Func) (hf : Tryd.pinned.checked.prog.funcNamed Rows.journalFuseRow.func = some f) (hfn : Tryd.pinned.checked.prog.funcs[f]? = some fn) :
    false = Tryd.pinned.checked.prog.looks [] ∧ ∀ (j : Nat) t, fn.params[j]? = some t → Tryd.pinned.checked.prog.wantsStandIn t = false := by
  obtain rfl : f = 26 := Option.some.inj ((show Tryd.prog.funcNamed Rows.journalFuseRow.func = some 26 by kernel_rfl).symm.trans hf) |>.symm
  obtain rfl : fn = Tryd.f26 := (Option.some.inj (Tryd.func26.symm.trans hfn)).symm
  refine ⟨cLooks, fun j t ht => ?_⟩
  rw [Tryd.params26] at ht
  have hm := Array.mem_of_getElem? ht
  simp only [List.mem_toArray, List.mem_cons, List.not_mem_nil, or_false] at hm
  rcases hm with rfl | rfl
  · exact (show Tryd.prog.wantsStandIn 5 = false by kernel_rfl)
  · exact (show Tryd.prog.wantsStandIn 77 = false by kernel_rfl)

/-- The card. -/
theorem card : Rows.JournalFuseCardSaid :=
  Claim7.holds_tied_plain_at .later [] _ _ _ _ said (fun _ h => by cases h) (by as_aux_lemma => kernel_rfl) (fun _ h => by cases h) journalFuse_row_tie rfl ⟨rfl, rfl⟩ mainIsIt rfl plain (by as_aux_lemma => kernel_rfl)
end Go.Proofs.YtddcfgbembjbhaaDoor.rowJournalFuse
namespace Go.Proofs.YtddcfgbembjbhaaDoor
theorem journalFuse_card : Rows.JournalFuseCardSaid := rowJournalFuse.card
#print axioms journalFuse_card
end Go.Proofs.YtddcfgbembjbhaaDoor
