/- Frames: all of them: the program's All, a range over a function: the iterator. -/
import Derived.Test.YtddcfgbembjbhaaDoorSame
import Derived.RangeFuncNested
import Derived.RangeFuncBound
import Derived.RangeFuncCalls
import Derived.RangeFuncLeaves
import Derived.Shelf.Abstract
import Derived.Shelf.RegionOpen
import Derived.OwnWalkIn
import Derived.TacticsInMore
import Derived.LoopNIn
import Derived.LoopIn
import Derived.Outline
namespace Go.Proofs.YtddcfgbembjbhaaDoor
open Go.RowKit Go.Shelf
set_option linter.unusedVariables false
attribute [local go_sem] Oper.semAt_some

/-! ### A region that draws, in a round -/
theorem wpOpsIn_of {P : Program} {ops : Array Oper} {Q : Exit → Act → World → Prop} {lp n : Nat} (hd : ∀ (i : Nat) (o : Oper), ops[i]? = some o → ∀ c, o.op ≠ .defer c) (hQ : ¬ LetsOut Q) :
    ∀ (l : List Nat) (a : Act) (w : World), wpOps P ops Q l a w → wpOpsIn (Fence.wide.inRound lp) n P ops Q l a w
  | [], a, w, h => h
  | i :: rest, a, w, h => by
    have ih := wpOpsIn_of (P := P) (lp := lp) (n := n) hd hQ rest
    unfold wpOps at h
    unfold wpOpsIn
    cases ho : ops[i]? with
    | none =>
      simp only [ho] at h ⊢
      exact ih _ _ h
    | some o =>
      simp only [ho] at h ⊢
      by_cases hw : Region.wanted o (yielded ops a.tmps) = true
      · rw [if_pos hw] at h ⊢
        rcases h with h | ⟨_, h⟩
        · refine ⟨fun _ _ => trivial, ?_⟩
          rw [show (Fence.wide.inRound lp).round = some lp from rfl, Oper.semAt_some _ _ _ (hd i o ho)]
          unfold Oper.wp at h
          revert h
          generalize Sem.run P (execOp a.eval o) w = r
          intro h
          cases r with
          | ok x w' =>
            cases x with
            | value v => exact ih _ _ h
            | skip => exact ih _ _ h
            | defer d => exact ih _ _ h
            | enter f args =>
              refine ⟨fun hf => ?_, CallsIn.mono (CallsIn.inRound lp (callsIn_wide.2 h)) (fun e w'' he => ?_)⟩
              · cases hf
              · cases e <;> first | exact ih _ _ he | exact he
            | row row args =>
              refine ⟨fun hf => ?_, fun c cs _ => ?_⟩
              · cases hf
              · obtain ⟨v, w'', r, s⟩ := h c cs
                exact ⟨v, w'', ih _ _ r, stepsIn_wide.2 s⟩
            | _ => exact h.elim
          | halt x w' => cases x <;> exact h
        · exact absurd h hQ
      · rw [if_neg hw] at h ⊢
        exact ⟨fun _ _ => trivial, ih _ _ h⟩
def noDefer (ops : Array Oper) : Bool := ops.all fun o => match o.op with | .defer _ => false | _ => true
theorem noDefer_spec {ops : Array Oper} (h : noDefer ops = true) (i : Nat) (o : Oper) (ho : ops[i]? = some o) (c : Call) : o.op ≠ .defer c := by
  intro e
  have := Array.all_eq_true_iff_forall_mem.1 h o (Array.mem_of_getElem? ho)
  rw [e] at this
  cases this
theorem region_round {P : Program} {id : Nat} {ops : Array Oper} {Q : Exit → Act → World → Prop} {a : Act} {w : World} {lp n : Nat} (S : World → Prop) (hd : noDefer ops = true) (hQ : ¬ LetsOut Q) (hm : P.follows .mixedOrders = true) (hS : S w.drew)
    (h : S w.drew → wpAnyH P .any ops Q S ops.size (Array.replicate ops.size false) a w.drew) : (Code.region id ops true).wpIn (Fence.wide.inRound lp) n P Q a w :=
  wpIn_region_draw fun t => wpOpsIn_of (noDefer_spec hd) hQ _ _ _ (by
    simp only [Region.schedule, hm, Bool.true_or, if_true]
    exact wpAny_sound ops.size t _ a _ (wpAny_of_held _ _ _ _ (h hS)))

/-! ### The iterator -/
set_option maxRecDepth 100000 in
set_option maxHeartbeats 1000000 in
theorem each (A : Option Addr) (n c : Nat) (w : World) : Calls Tryd.prog 77 #[.slice A n c] w fun e w' => e = .returned (.func (.func 86) #[] #[.pointer (some ⟨w.heap.size, 0, none⟩)]) ∧ w' = w.alloc (.cells #[.slice A n c] 23) := by
  go_enter Tryd.func77, Tryd.ntmps77
  go_wp2
  go_ret
  exact ⟨rfl, rfl⟩
set_option maxRecDepth 100000 in
set_option maxHeartbeats 2000000 in
/-- **The iterator, for whatever loop body that keeps J**: J pre i: 'pre' has come, up to place i. -/
theorem each1 (m lp Bs : Nat) (A : Option Addr) (n c : Nat) (l : List UInt8) (B : Nat) (hl : l.length = n) (hn : n ≤ 40000000000000) (hc : n ≤ c) (J : List (UInt8 × List UInt8) → Nat → World → Prop)
    (hJB : ∀ pre i W, J pre i W → W.cell? ⟨Bs, 0, none⟩ = some (.slice A n c) ∧ BytesAt W B A n l ∧ B ≤ W.heap.size ∧ 0 < W.heap.size ∧ Four W)
    (hJ : ∀ pre i W W', J pre i W → Below W.heap.size W W' → J pre i W')
    (hY : ∀ pre i W0 W k b A2 n2 c2 I, J pre i W0 → Below W0.heap.size W0 W → OwnB W W0.heap.size A2 n2 c2 b → Come l (pre ++ [(k, b)]) I →
      YieldAt Fence.wide (m - 1) Tryd.prog lp #[.int .i64 (I : Int), .agg #[.int .u8 (k.toNat : Int), .slice A2 n2 c2]] W fun e W' => e = .returned (.bool true) ∧ J (pre ++ [(k, b)]) I W')
    (W : World) (h0 : J [] 0 W) :
    CallsIn Fence.wide m Tryd.prog 86 #[.func (.yield lp) #[] #[], .pointer (some ⟨Bs, 0, none⟩)] W fun e W' => (∃ v, e = .returned v) ∧ J (frames l) (flen (frames l)) W' := by
  refine callsIn_of_wp Tryd.func86 rfl trivial ?_ rfl
  simp only [Tryd.ntmps86, List.size_toArray, List.length_cons, List.length_nil, Nat.reduceAdd, Nat.reduceSub, Array.replicate_succ, Array.replicate_zero, List.push_toArray, List.append_toArray, List.nil_append, List.cons_append]
  gi_wp2
  gi_loopw [3] (fun x3 wr => ∃ (pre : List (UInt8 × List UInt8)) (i : Nat), x3 = .int .i64 (i : Int) ∧ J pre i wr ∧ Come l pre i) (fun x3 _ => n - (intOf x3).toNat)
  case atStart => exact ⟨[], 0, rfl, h0, Come.start l⟩
  case round =>
    obtain ⟨pre, i, rfl, hJs, hcome⟩ := hrel
    obtain ⟨hbox, hr, hB, hw, ht⟩ := hJB pre i wr hJs
    have hil := hcome.2.2
    have hin : i ≤ n := by omega
    by_cases hE : getE (l.drop i) = 0
    rotate_left
    · have hg := getAll_err (l := l) (i := i) hil rfl hE
      obtain ⟨e1, e2⟩ := hcome.last hE
      have HE1 := Lib.hid e1
      have HE2 := Lib.hid e2
      have hEn : (getE (l.drop i) != 0) = true := by simpa using hE
      have QG : Hid (Calls Tryd.prog 42 #[.slice A n c, .int .i64 (i : Int)] wr (Got wr l i)) := Lib.hid (frameGet A n c l i B wr hw ht hr hB (by omega) hc)
      have HG := Lib.hid hg
      have HJ := Lib.hid hJs
      have HR := Lib.hid hr
      generalize getE (l.drop i) = E at *
      clear hE hg e1 e2 hJs hr hcome ht hil
      gi_wp2
      refine ⟨trivial, (fun h => by cases h), ?_⟩
      refine (callsIn_wide.2 QG.out).mono ?_
      rintro e w2 ⟨A2, n2, c2, rfl, ho2, hb2⟩
      rw [HG.out]
      have HB2 := Lib.hid hb2
      clear ho2 hb2
      gi_wp2
      refine ⟨(fun _ h => by cases h), ?_⟩
      gi_wp2
      refine bodyPost_ret (results_none rfl _ _ _) rfl ?_
      exact ⟨⟨_, rfl⟩, by rw [HE1.out, show flen pre = i by rw [← HE1.out]; exact HE2.out]; exact hJ _ _ _ _ HJ.out HB2.out⟩
    · have hg := getAll_at hil hE
      have hnx := hcome.next hE
      have hnil := hnx.2.2
      rw [hl] at hnil
      have HX := Lib.hid hnx
      have QG : Hid (Calls Tryd.prog 42 #[.slice A n c, .int .i64 (i : Int)] wr (Got wr l i)) := Lib.hid (frameGet A n c l i B wr hw ht hr hB (by omega) hc)
      have HG := Lib.hid hg
      have HJ := Lib.hid hJs
      have HR := Lib.hid hr
      clear hg hnx hE hJs hr hcome ht hil
      generalize hI : i + num2 (l.drop i) + 8 = I at *
      have hIi : i + 8 ≤ I := by omega
      clear hI
      generalize ((l.drop i).drop 4).take (num2 (l.drop i)) = body at *
      generalize byteAt (l.drop i) 1 = k at *
      gi_wp2
      refine ⟨trivial, (fun h => by cases h), ?_⟩
      refine (callsIn_wide.2 QG.out).mono ?_
      rintro e w2 ⟨A2, n2, c2, rfl, ho2, hb2⟩
      rw [HG.out] at ho2 ⊢
      obtain ⟨fn, tmps, assign, bd, hy, hR⟩ := hY pre i wr w2 k body A2 n2 c2 I HJ.out hb2 ho2 HX.out
      clear ho2 hb2
      have HY := Lib.hid hR
      clear hR
      gi_wp2
      refine ⟨(fun h => by cases h), ?_⟩
      refine HY.out.mono ?_
      rintro e W3 ⟨rfl, hJ3⟩
      have HJ3 := Lib.hid hJ3
      clear hJ3 hy
      gi_wp2
      go_roundw
      case rel => exact ⟨pre ++ [(k, body)], I, rfl, HJ3.out, HX.out⟩
      case measure => simp [intOf]; omega
end Go.Proofs.YtddcfgbembjbhaaDoor
