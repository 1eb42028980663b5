/- The statement of JournalLost: the row over its walk, and the card. -/
import Derived.Test.YtddcfgbembjbhaaDoorWJournalLost
import Derived.Test.YtddcfgbembjbhaaDoorOpen
import Derived.Test.YtddcfgbembjbhaaDoorHead
namespace Go.Proofs.YtddcfgbembjbhaaDoor.rowJournalLost
open Go.ChangeShapes Go.WideShapes Go.ChangeAt Go.RowKit
set_option linter.unusedVariables false

set_option maxRecDepth 100000 in
theorem contract (H : Type) (enc : TypeId × Value → H) (W : World) (base : Nat) (args : Array Value) (ds gs : List (DataW H)) (before : List MemPlace)
    (hval : ∀ (j : Nat) t v, Tryd.f24.params[j]? = some t → args[j]? = some v → Value.okWide Tryd.prog W .any base t v)
    (hW : DataW.Whole enc Tryd.prog Tryd.f24.params.toList Rows.journalLostSpec.vars false W args.toList ds gs before) (hL : laidMetH Tryd.prog Rows.journalLostRow.laid W)
    (hz : (DataW.weightsEach Tryd.prog (Tryd.f24.params.toList ++ []) (ds ++ gs)).all (· ≤ reachBytes) = true) (hg0 : 0 < W.heap.size) :
    Calls Tryd.prog 24 args W fun e W' => ∃ v, e = .returned v ∧ Rows.journalLostSpec.post enc Tryd.prog Tryd.f24 false true false false W args v W' := by
  have hW' := hW
  obtain ⟨p, q, hA0, hV, rfl, hfz, hnd⟩ := hW
  have hA : DataW.TrodAll enc Tryd.prog W 0 (fun _ => true) true Tryd.f24.params.toList args.toList ds p := hA0
  rw [Tryd.params24] at hA hval hz
  obtain ⟨v0, vs0, d0, ds0, p0, q0, hargs, rfl, rfl, h0, r0⟩ := trodAll_cons hA
  obtain ⟨v1, vs1, d1, ds1, p1, q1, rfl, rfl, rfl, h1, r1⟩ := trodAll_cons r0
  obtain ⟨v2, vs2, d2, ds2, p2, q2, rfl, rfl, rfl, h2, r2⟩ := trodAll_cons r1
  obtain ⟨v3, vs3, d3, ds3, p3, q3, rfl, rfl, rfl, h3, r3⟩ := trodAll_cons r2
  obtain ⟨v4, vs4, d4, ds4, p4, q4, rfl, rfl, rfl, h4, r4⟩ := trodAll_cons r3
  obtain ⟨rfl, rfl, rfl⟩ := trodAll_nil r4
  obtain rfl : args = #[v0, v1, v2, v3, v4] := by cases args; simp_all
  obtain ⟨rfl, rfl⟩ := trodVars_none hV
  simp only [List.append_nil] at hz
  have k0 := h0
  have lt0 : ∀ x ∈ p0, x.block < W.heap.size := by obtain ⟨m, hm⟩ := k0; exact DataW.trod_lt m _ _ _ hm
  obtain ⟨x0, rfl, rfl, rfl, wx0⟩ := open_int Tryd.underlying5 (hval 0 5 v0 rfl rfl) h0
  have k1 := h1
  have lt1 : ∀ x ∈ p1, x.block < W.heap.size := by obtain ⟨m, hm⟩ := k1; exact DataW.trod_lt m _ _ _ hm
  obtain ⟨A1, n1, c1, rfl⟩ := okWide_slice Tryd.underlying23 (hval 1 23 v1 rfl rfl)
  obtain ⟨l1, hl1, hc1, hd1⟩ := open_bytes h1
  have hs1 := bytes_size (j := 1) hz rfl rfl hd1
  have k2 := h2
  have lt2 : ∀ x ∈ p2, x.block < W.heap.size := by obtain ⟨m, hm⟩ := k2; exact DataW.trod_lt m _ _ _ hm
  obtain ⟨A2, n2, c2, rfl⟩ := okWide_slice Tryd.underlying23 (hval 2 23 v2 rfl rfl)
  obtain ⟨l2, hl2, hc2, hd2⟩ := open_bytes h2
  have hs2 := bytes_size (j := 2) hz rfl rfl hd2
  have k3 := h3
  have lt3 : ∀ x ∈ p3, x.block < W.heap.size := by obtain ⟨m, hm⟩ := k3; exact DataW.trod_lt m _ _ _ hm
  obtain ⟨x3, rfl, rfl, rfl, wx3⟩ := open_int Tryd.underlying3 (hval 3 3 v3 rfl rfl) h3
  have k4 := h4
  have lt4 : ∀ x ∈ p4, x.block < W.heap.size := by obtain ⟨m, hm⟩ := k4; exact DataW.trod_lt m _ _ _ hm
  obtain ⟨x4, rfl, rfl, rfl⟩ := open_bool Tryd.underlying4 (hval 4 4 v4 rfl rfl) h4
  clear hA0
  refine (walkJournalLost W hg0 (four_of_laid hL) x0 (bounds_u8 wx0) A1 n1 c1 l1 hl1 hc1 hs1 A2 n2 c2 l2 hl2 hc2 hs2 x3 (bounds_i64 wx3) x4).mono fun e W' ⟨he, bel⟩ => ?_
  subst he
  exact ⟨_, rfl, _, _, _, [], _, [], hW', trodAll_mk1 (shut_bool Tryd.underlying4 _), (trodAll_cons_mk (Below.trod laidOut (by kernel_rfl) (of_decide_eq_true (by kernel_rfl)) k0 bel lt0) (trodAll_cons_mk (Below.trod laidOut (by kernel_rfl) (of_decide_eq_true (by kernel_rfl)) k1 bel lt1) (trodAll_cons_mk (Below.trod laidOut (by kernel_rfl) (of_decide_eq_true (by kernel_rfl)) k2 bel lt2) (trodAll_cons_mk (Below.trod laidOut (by kernel_rfl) (of_decide_eq_true (by kernel_rfl)) k3 bel lt3) (trodAll_cons_mk (Below.trod laidOut (by kernel_rfl) (of_decide_eq_true (by kernel_rfl)) k4 bel lt4) trodAll_mk0))))), rfl, bel.frame _, fun h => by cases h⟩

def wargs : Array Value := #[.int .u8 0, .slice none 0 0, .slice none 0 0, .int .i64 0, .bool false]
theorem laid_met (os : Os) : laidMet Tryd.prog Rows.journalLostRow.laid ((laidWorld os).forCall (fun _ _ => 0) ⟨#[], wargs, []⟩).memory :=
  laidMet_of_run' 8 (by kernel_rfl) (by kernel_rfl)
theorem reads (os : Os) {H : Type} (enc : TypeId × Value → H) : ∃ places, DataW.whole enc Tryd.prog ((laidWorld os).forCall (fun _ _ => 0) ⟨#[], wargs, []⟩).memory Tryd.f24.params.toList Rows.journalLostSpec.vars false wargs.toList 8 = some ([.lit (.int .u8 0), .nil, .nil, .lit (.int .i64 0), .lit (.bool false)], [], places) :=
  ⟨[], by kernel_rfl⟩

set_option maxRecDepth 100000 in
theorem lifted (os : Os) (started : os.Started) (H : Type) (enc : TypeId × Value → H) (F : Stop.Interp) :
    ReturnsInHanded {} Tryd.checked os 24 .any ((OpenSpec.ofChange Rows.journalLostSpec).preRow enc Tryd.prog Tryd.f24 Rows.journalLostRow.domain false Rows.journalLostRow.laid) (((OpenSpec.ofChange Rows.journalLostSpec).at F).post enc Tryd.prog Tryd.f24 false true false false) := by
  obtain ⟨places, hx⟩ := reads os enc
  refine returnsInHanded_of_row (C := Tryd.checked) (s := (OpenSpec.ofChange Rows.journalLostSpec)) own started (by kernel_rfl) Tryd.func24
    (witness_row_at (enc := enc) (C := Tryd.checked) false (laidWorld os) wargs rfl (by kernel_rfl) (by kernel_rfl) (by kernel_rfl)
      (OpenSpec.preRow_of_cond 8 hx (by kernel_rfl) (fun k hk => by cases hk) (by kernel_rfl) (laid_met os))) ?_
  intro W base args ds gs before hval hW _ hcond hz hL hsh _
  exact contract H enc W base args ds gs before hval hW hL hz (heap_pos hL)

theorem closed : joinedFacts Tryd.pinned.checked.prog 24 Tryd.f24 (OpenSpec.ofChange Rows.journalLostSpec).bare Rows.journalLostRow = true := by
  unfold joinedFacts
  refine and_mk (and_mk (and_mk (and_mk (and_mk (and_mk (and_mk (and_mk (and_mk (and_mk (and_mk (and_mk (and_mk (and_mk (and_mk (and_mk (and_mk (and_mk (and_mk (and_mk (and_mk (and_mk (and_mk (and_mk (and_mk (and_mk (and_mk (and_mk (and_mk (and_mk (and_mk ?h1 ?h2) ?h3) ?h4) ?h5) ?h6) ?h7) ?h8) ?h9) ?h10) ?h11) ?h12) ?h13) ?h14) ?h15) ?h16) ?h17) ?h18) ?h19) ?h20) ?h21) ?h22) ?h23) ?h24) ?h25) ?h26) ?h27) ?h28) ?h29) ?h30) ?h31) ?h32
  case h2 => exact cLaid
  case h3 => exact cMaps
  case h7 => exact cStops
  case h9 => exact cKnobs
  case h25 => exact cHeard
  case h26 => exact cEnter
  case h27 => exact cFinal
  case h28 => exact cMake
  all_goals (as_aux_lemma => kernel_rfl)
theorem said : Rows.JournalLostSaid :=
  OpenClaim.holds_of_cond 24 Tryd.f24 rfl rfl rfl rfl rfl rfl rfl ⟨rfl, rfl, rfl, rfl, rfl⟩ rfl rfl rfl rfl rfl (by as_aux_lemma => kernel_rfl) Tryd.func24 closed
    (of_decide_eq_true (by as_aux_lemma => kernel_rfl)) (by unfold Func.isWrapper; rw [if_neg (of_decide_eq_false (by as_aux_lemma => kernel_rfl))]; exact ⟨rfl, rfl⟩)
    (fun os started H enc _ F => by rw [OpenClaim.pre_eq_preRow]; exact lifted os started H enc F)

theorem plain (f : FuncId) (fn : Func) (hf : Tryd.pinned.checked.prog.funcNamed Rows.journalLostRow.func = some f) (hfn : Tryd.pinned.checked.prog.funcs[f]? = some fn) :
    false = Tryd.pinned.checked.prog.looks [] ∧ ∀ (j : Nat) t, fn.params[j]? = some t → Tryd.pinned.checked.prog.wantsStandIn t = false := by
  obtain rfl : f = 24 := Option.some.inj ((show Tryd.prog.funcNamed Rows.journalLostRow.func = some 24 by kernel_rfl).symm.trans hf) |>.symm
  obtain rfl : fn = Tryd.f24 := (Option.some.inj (Tryd.func24.symm.trans hfn)).symm
  refine ⟨cLooks, fun j t ht => ?_⟩
  rw [Tryd.params24] at ht
  have hm := Array.mem_of_getElem? ht
  simp only [List.mem_toArray, List.mem_cons, List.not_mem_nil, or_false] at hm
  rcases hm with rfl | rfl | rfl | rfl | rfl
  · exact (show Tryd.prog.wantsStandIn 5 = false by kernel_rfl)
  · exact (show Tryd.prog.wantsStandIn 23 = false by kernel_rfl)
  · exact (show Tryd.prog.wantsStandIn 23 = false by kernel_rfl)
  · exact (show Tryd.prog.wantsStandIn 3 = false by kernel_rfl)
  · exact (show Tryd.prog.wantsStandIn 4 = false by kernel_rfl)

/-- The card. -/
theorem card : Rows.JournalLostCardSaid :=
  Claim7.holds_tied_plain_at .later [] _ _ _ _ said (fun _ h => by cases h) (by as_aux_lemma => kernel_rfl) (fun _ h => by cases h) journalLost_row_tie rfl ⟨rfl, rfl⟩ mainIsIt rfl plain (by as_aux_lemma => kernel_rfl)
end Go.Proofs.YtddcfgbembjbhaaDoor.rowJournalLost
namespace Go.Proofs.YtddcfgbembjbhaaDoor
theorem journalLost_card : Rows.JournalLostCardSaid := rowJournalLost.card
#print axioms journalLost_card
end Go.Proofs.YtddcfgbembjbhaaDoor
