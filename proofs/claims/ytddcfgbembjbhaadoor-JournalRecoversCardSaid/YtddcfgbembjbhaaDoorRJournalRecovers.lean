/- The statement of JournalRecovers: the row over its walk, and the card. -/
import Derived.Test.YtddcfgbembjbhaaDoorWJournalRecovers
import Derived.Test.YtddcfgbembjbhaaDoorOpen
import Derived.Test.YtddcfgbembjbhaaDoorOpenLists
import Derived.Test.YtddcfgbembjbhaaDoorHead
namespace Go.Proofs.YtddcfgbembjbhaaDoor.rowJournalRecovers
open Go.ChangeShapes Go.WideShapes Go.ChangeAt Go.RowKit
set_option linter.unusedVariables false

set_option maxRecDepth 100000 in
theorem contract (H : Type) (enc : TypeId × Value → H) (W : World) (base : Nat) (args : Array Value) (ds gs : List (DataW H)) (before : List MemPlace)
    (hval : ∀ (j : Nat) t v, Tryd.f25.params[j]? = some t → args[j]? = some v → Value.okWide Tryd.prog W .any base t v)
    (hW : DataW.Whole enc Tryd.prog Tryd.f25.params.toList Rows.journalRecoversSpec.vars false W args.toList ds gs before) (hL : laidMetH Tryd.prog Rows.journalRecoversRow.laid W)
    (hz : (DataW.weightsEach Tryd.prog (Tryd.f25.params.toList ++ []) (ds ++ gs)).all (· ≤ reachBytes) = true) (hg0 : 0 < W.heap.size) :
    Calls Tryd.prog 25 args W fun e W' => ∃ v, e = .returned v ∧ Rows.journalRecoversSpec.post enc Tryd.prog Tryd.f25 false true false false W args v W' := by
  have hW' := hW
  obtain ⟨p, q, hA0, hV, rfl, hfz, hnd⟩ := hW
  have hA : DataW.TrodAll enc Tryd.prog W 0 (fun _ => true) true Tryd.f25.params.toList args.toList ds p := hA0
  rw [Tryd.params25] at hA hval hz
  obtain ⟨v0, vs0, d0, ds0, p0, q0, hargs, rfl, rfl, h0, r0⟩ := trodAll_cons hA
  obtain ⟨v1, vs1, d1, ds1, p1, q1, rfl, rfl, rfl, h1, r1⟩ := trodAll_cons r0
  obtain ⟨v2, vs2, d2, ds2, p2, q2, rfl, rfl, rfl, h2, r2⟩ := trodAll_cons r1
  obtain ⟨v3, vs3, d3, ds3, p3, q3, rfl, rfl, rfl, h3, r3⟩ := trodAll_cons r2
  obtain ⟨rfl, rfl, rfl⟩ := trodAll_nil r3
  obtain rfl : args = #[v0, v1, v2, v3] := by cases args; simp_all
  obtain ⟨rfl, rfl⟩ := trodVars_none hV
  simp only [List.append_nil] at hz
  have k0 := h0
  have lt0 : ∀ x ∈ p0, x.block < W.heap.size := by obtain ⟨m, hm⟩ := k0; exact DataW.trod_lt m _ _ _ hm
  obtain ⟨A0, n0, c0, rfl⟩ := okWide_slice Tryd.underlying23 (hval 0 23 v0 rfl rfl)
  obtain ⟨l0, hl0, hc0, hd0⟩ := open_bytes h0
  have hs0 := bytes_size (j := 0) hz rfl rfl hd0
  have k1 := h1
  have lt1 : ∀ x ∈ p1, x.block < W.heap.size := by obtain ⟨m, hm⟩ := k1; exact DataW.trod_lt m _ _ _ hm
  obtain ⟨A1, n1, c1, rfl⟩ := okWide_slice Tryd.underlying61 (hval 1 61 v1 rfl rfl)
  have hs1 := weights_of (j := 1) hz rfl rfl
  obtain ⟨l1, hl1, hc1⟩ := open_lists h1 hs1
  have k2 := h2
  have lt2 : ∀ x ∈ p2, x.block < W.heap.size := by obtain ⟨m, hm⟩ := k2; exact DataW.trod_lt m _ _ _ hm
  obtain ⟨x2, rfl, rfl, rfl, wx2⟩ := open_int Tryd.underlying5 (hval 2 5 v2 rfl rfl) h2
  have k3 := h3
  have lt3 : ∀ x ∈ p3, x.block < W.heap.size := by obtain ⟨m, hm⟩ := k3; exact DataW.trod_lt m _ _ _ hm
  obtain ⟨x3, rfl, rfl, rfl, wx3⟩ := open_int Tryd.underlying3 (hval 3 3 v3 rfl rfl) h3
  clear hA0
  refine (walkJournalRecovers W hg0 (four_of_laid hL) A0 n0 c0 l0 hl0 hc0 hs0 A1 n1 c1 l1 hl1 hc1 x2 (bounds_u8 wx2) x3 (bounds_i64 wx3)).mono fun e W' ⟨he, bel⟩ => ?_
  subst he
  exact ⟨_, rfl, _, _, _, [], _, [], hW', trodAll_mk1 (shut_bool Tryd.underlying4 _), (trodAll_cons_mk (Below.trod laidOut (by kernel_rfl) (of_decide_eq_true (by kernel_rfl)) k0 bel lt0) (trodAll_cons_mk (Below.trod laidOut (by kernel_rfl) (of_decide_eq_true (by kernel_rfl)) k1 bel lt1) (trodAll_cons_mk (Below.trod laidOut (by kernel_rfl) (of_decide_eq_true (by kernel_rfl)) k2 bel lt2) (trodAll_cons_mk (Below.trod laidOut (by kernel_rfl) (of_decide_eq_true (by kernel_rfl)) k3 bel lt3) trodAll_mk0)))), rfl, bel.frame _, fun h => by cases h⟩

def wargs : Array Value := #[.slice none 0 0, .slice none 0 0, .int .u8 0, .int .i64 0]
theorem laid_met (os : Os) : laidMet Tryd.prog Rows.journalRecoversRow.laid ((laidWorld os).forCall (fun _ _ => 0) ⟨#[], wargs, []⟩).memory :=
  laidMet_of_run' 8 (by kernel_rfl) (by kernel_rfl)
theorem reads (os : Os) {H : Type} (enc : TypeId × Value → H) : ∃ places, DataW.whole enc Tryd.prog ((laidWorld os).forCall (fun _ _ => 0) ⟨#[], wargs, []⟩).memory Tryd.f25.params.toList Rows.journalRecoversSpec.vars false wargs.toList 8 = some ([.nil, .nil, .lit (.int .u8 0), .lit (.int .i64 0)], [], places) :=
  ⟨[], by kernel_rfl⟩

set_option maxRecDepth 100000 in
theorem lifted (os : Os) (started : os.Started) (H : Type) (enc : TypeId × Value → H) (F : Stop.Interp) :
    ReturnsInHanded {} Tryd.checked os 25 .any ((OpenSpec.ofChange Rows.journalRecoversSpec).preRow enc Tryd.prog Tryd.f25 Rows.journalRecoversRow.domain false Rows.journalRecoversRow.laid) (((OpenSpec.ofChange Rows.journalRecoversSpec).at F).post enc Tryd.prog Tryd.f25 false true false false) := by
  obtain ⟨places, hx⟩ := reads os enc
  refine returnsInHanded_of_row (C := Tryd.checked) (s := (OpenSpec.ofChange Rows.journalRecoversSpec)) own started (by kernel_rfl) Tryd.func25
    (witness_row_at (enc := enc) (C := Tryd.checked) false (laidWorld os) wargs rfl (by kernel_rfl) (by kernel_rfl) (by kernel_rfl)
      (OpenSpec.preRow_of_cond 8 hx (by kernel_rfl) (fun k hk => by cases hk) (by kernel_rfl) (laid_met os))) ?_
  intro W base args ds gs before hval hW _ hcond hz hL hsh _
  exact contract H enc W base args ds gs before hval hW hL hz (heap_pos hL)

theorem closed : joinedFacts Tryd.pinned.checked.prog 25 Tryd.f25 (OpenSpec.ofChange Rows.journalRecoversSpec).bare Rows.journalRecoversRow = true := by
  unfold joinedFacts
  refine and_mk (and_mk (and_mk (and_mk (and_mk (and_mk (and_mk (and_mk (and_mk (and_mk (and_mk (and_mk (and_mk (and_mk (and_mk (and_mk (and_mk (and_mk (and_mk (and_mk (and_mk (and_mk (and_mk (and_mk (and_mk (and_mk (and_mk (and_mk (and_mk (and_mk (and_mk ?h1 ?h2) ?h3) ?h4) ?h5) ?h6) ?h7) ?h8) ?h9) ?h10) ?h11) ?h12) ?h13) ?h14) ?h15) ?h16) ?h17) ?h18) ?h19) ?h20) ?h21) ?h22) ?h23) ?h24) ?h25) ?h26) ?h27) ?h28) ?h29) ?h30) ?h31) ?h32
  case h2 => exact cLaid
  case h3 => exact cMaps
  case h7 => exact cStops
  case h9 => exact cKnobs
  case h25 => exact cHeard
  case h26 => exact cEnter
  case h27 => exact cFinal
  case h28 => exact cMake
  all_goals (as_aux_lemma => kernel_rfl)
theorem said : Rows.JournalRecoversSaid :=
  OpenClaim.holds_of_cond 25 Tryd.f25 rfl rfl rfl rfl rfl rfl rfl ⟨rfl, rfl, rfl, rfl, rfl⟩ rfl rfl rfl rfl rfl (by as_aux_lemma => kernel_rfl) Tryd.func25 closed
    (of_decide_eq_true (by as_aux_lemma => kernel_rfl)) (by unfold Func.isWrapper; rw [if_neg (of_decide_eq_false (by as_aux_lemma => kernel_rfl))]; exact ⟨rfl, rfl⟩)
    (fun os started H enc _ F => by rw [OpenClaim.pre_eq_preRow]; exact lifted os started H enc F)

theorem plain (f : FuncId) (fn : Func) (hf : Tryd.pinned.checked.prog.funcNamed Rows.journalRecoversRow.func = some f) (hfn : Tryd.pinned.checked.prog.funcs[f]? = some fn) :
    false = Tryd.pinned.checked.prog.looks [] ∧ ∀ (j : Nat) t, fn.params[j]? = some t → Tryd.pinned.checked.prog.wantsStandIn t = false := by
  obtain rfl : f = 25 := Option.some.inj ((show Tryd.prog.funcNamed Rows.journalRecoversRow.func = some 25 by kernel_rfl).symm.trans hf) |>.symm
  obtain rfl : fn = Tryd.f25 := (Option.some.inj (Tryd.func25.symm.trans hfn)).symm
  refine ⟨cLooks, fun j t ht => ?_⟩
  rw [Tryd.params25] at ht
  have hm := Array.mem_of_getElem? ht
  simp only [List.mem_toArray, List.mem_cons, List.not_mem_nil, or_false] at hm
  rcases hm with rfl | rfl | rfl | rfl
  · exact (show Tryd.prog.wantsStandIn 23 = false by kernel_rfl)
  · exact (show Tryd.prog.wantsStandIn 61 = false by kernel_rfl)
  · exact (show Tryd.prog.wantsStandIn 5 = false by kernel_rfl)
  · exact (show Tryd.prog.wantsStandIn 3 = false by kernel_rfl)

/-- The card. -/
theorem card : Rows.JournalRecoversCardSaid :=
  Claim7.holds_tied_plain_at .later [] _ _ _ _ said (fun _ h => by cases h) (by as_aux_lemma => kernel_rfl) (fun _ h => by cases h) journalRecovers_row_tie rfl ⟨rfl, rfl⟩ mainIsIt rfl plain (by as_aux_lemma => kernel_rfl)
end Go.Proofs.YtddcfgbembjbhaaDoor.rowJournalRecovers
namespace Go.Proofs.YtddcfgbembjbhaaDoor
theorem journalRecovers_card : Rows.JournalRecoversCardSaid := rowJournalRecovers.card
#print axioms journalRecovers_card
end Go.Proofs.YtddcfgbembjbhaaDoor
