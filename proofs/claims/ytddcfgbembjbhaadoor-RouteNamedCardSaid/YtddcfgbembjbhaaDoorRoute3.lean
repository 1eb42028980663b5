/- Routes: slices.Contains; the iterator of the order, for whatever loop body. -/
import Derived.Test.YtddcfgbembjbhaaDoorRoute2
import Derived.Test.YtddcfgbembjbhaaDoorAll2
namespace Go.Proofs.YtddcfgbembjbhaaDoor
open Go.RowKit Go.Shelf
set_option linter.unusedVariables false
set_option linter.unusedSimpArgs false
attribute [local go_sem] Oper.semAt_some
set_option maxRecDepth 100000 in
set_option maxHeartbeats 1000000 in
theorem containsInt (A : Option Addr) (n c : Nat) (xs : List Int) (x : Int) (B : Nat) (w : World) (h : IntsAt w B A n xs) (hn : n ≤ 140737488351232) :
    Calls Tryd.prog 76 #[.slice A n c, .int .i64 x] w fun e w' => e = .returned (.bool (xs.contains x)) ∧ w' = w := by
  go_enter Tryd.func76, Tryd.ntmps76
  go_wp2_with fail
  refine (indexInt A n c xs x B w h hn).mono ?_
  rintro e w' ⟨⟨r, rfl, hr⟩, rfl⟩
  rcases hr with ⟨rfl, hm⟩ | ⟨h0, hm⟩
  · have e : xs.contains x = false := by simpa using hm
    have HM := Lib.hid hm
    clear hm e
    go_wp2
    go_ret
    simp [HM.out]
  · have e : xs.contains x = true := by simpa using hm
    have HM := Lib.hid hm
    clear hm e
    go_wp2
    go_ret
    simp [h0, HM.out]
theorem index102 (a b c d e : Int) (w : World) : ∀ (k : Nat) (x : Int), ([a, b, c, d, e] : List Int)[k]? = some x → (Instr.index 102 (.agg #[.int .i64 a, .int .i64 b, .int .i64 c, .int .i64 d, .int .i64 e]) (.int .i64 (k : Int))).run Tryd.prog w = .ok (.int .i64 x) w
  | 0, x, h => by cases h; kernel_rfl
  | 1, x, h => by cases h; kernel_rfl
  | 2, x, h => by cases h; kernel_rfl
  | 3, x, h => by cases h; kernel_rfl
  | 4, x, h => by cases h; kernel_rfl
  | k + 5, x, h => by simp at h
def PlanV.cand (P : PlanV) (s : Int) (l : List UInt8) : List Int := [s, splitOf P.target P.prev P.percent (bucketOf l), P.target, P.prev, P.spill]
/-- What the order's function value reads. -/
structure SeqAt (W : World) (Bs Bp Bb B : Nat) (P : PlanV) (A : Option Addr) (n c : Nat) (l : List UInt8) (s : Int) : Prop where
  plan : PlanAt W Bp P
  planLt : Bp < W.heap.size
  arg : W.cell? ⟨Bb, 0, none⟩ = some (.slice A n c)
  argLt : Bb < W.heap.size
  seat : W.cell? ⟨Bs, 0, none⟩ = some (.int .i64 s)
  seatLt : Bs < W.heap.size
  bytes : BytesAt W B A n l
  le : B ≤ W.heap.size
  pos : 0 < W.heap.size
  four : Four W
/-- What holds through the iterator's first statement. -/
def SeqIn (Bs Bp Bb : Nat) (P : PlanV) (A : Option Addr) (n c : Nat) (s : Int) (w w' : World) : Prop :=
  PlanAt w' Bp P ∧ (w'.cell? ⟨Bb, 0, none⟩ = some (.slice A n c) ∧ w'.cell? ⟨Bs, 0, none⟩ = some (.int .i64 s)) ∧ Below w.heap.size w w'
theorem SeqIn.step {Bs Bp Bb : Nat} {P : PlanV} {A : Option Addr} {n c : Nat} {s : Int} {w w' w'' : World} (h : SeqIn Bs Bp Bb P A n c s w w') (hb : Below w'.heap.size w' w'') (h1 : Bp < w.heap.size ∧ Bb < w.heap.size ∧ Bs < w.heap.size) : SeqIn Bs Bp Bb P A n c s w w'' := by
  have hs := h.2.2.size
  exact ⟨h.1.below hb (by omega), ⟨(hb.cell (p := ⟨Bb, 0, none⟩) (Nat.lt_of_lt_of_le h1.2.1 hs)).trans h.2.1.1, (hb.cell (p := ⟨Bs, 0, none⟩) (Nat.lt_of_lt_of_le h1.2.2 hs)).trans h.2.1.2⟩, h.2.2.trans (hb.mono hs)⟩
set_option maxRecDepth 100000 in
set_option maxHeartbeats 8000000 in
/-- **The order's iterator, for whatever loop body that keeps J**: J k: the first k have come. -/
theorem order1 (m lp B Bs Bp Bb : Nat) (P : PlanV) (A : Option Addr) (n c : Nat) (l : List UInt8) (s : Int) (hn : n ≤ 140737488351232) (J : Nat → World → Prop) (Stop : World → Prop)
    (hJB : ∀ k W, J k W → SeqAt W Bs Bp Bb B P A n c l s)
    (hJ : ∀ k W W', J k W → Below W.heap.size W W' → J k W')
    (hS : ∀ k x W, (P.cand s l)[k]? = some x → P.names x = false → J k W → J (k + 1) W)
    (hY : ∀ k x W, (P.cand s l)[k]? = some x → P.names x = true → J k W → YieldAt Fence.wide (m - 1) Tryd.prog lp #[.int .i64 x] W fun e W' => (e = .returned (.bool true) ∧ J (k + 1) W') ∨ (e = .returned (.bool false) ∧ Stop W'))
    (W : World) (h0 : J 0 W) :
    CallsIn Fence.wide m Tryd.prog 83 #[.func (.yield lp) #[] #[], .pointer (some ⟨Bs, 0, none⟩), .pointer (some ⟨Bp, 0, none⟩), .pointer (some ⟨Bb, 0, none⟩)] W fun e W' => (∃ v, e = .returned v) ∧ (J 5 W' ∨ Stop W') := by
  obtain ⟨p0, p1, p2, p3, p4, p5, p6, p7, p8, p9, pA, pn, pc, cA, cn, cc⟩ := P
  obtain ⟨⟨c0, c1, c2, c3, c4, c5, c6, c7, c8, c9, c10, c11⟩, hpl, ha, hal, hse, hsl, hr, hB, hw, ht⟩ := hJB 0 W h0
  simp only at c0 c1 c2 c3 c4 c5 c6 c7 c8 c9 c10 c11
  have hgw : Bp < W.heap.size ∧ Bb < W.heap.size ∧ Bs < W.heap.size := ⟨hpl, hal, hsl⟩
  have HST : Hid (SeqIn Bs Bp Bb ⟨p0, p1, p2, p3, p4, p5, p6, p7, p8, p9, pA, pn, pc, cA, cn, cc⟩ A n c s W W.drew) := Lib.hid ⟨⟨c0, c1, c2, c3, c4, c5, c6, c7, c8, c9, c10, c11⟩, ⟨ha, hse⟩, (Below.refl _ W).drew⟩
  have q37 : ∀ W', SeqIn Bs Bp Bb ⟨p0, p1, p2, p3, p4, p5, p6, p7, p8, p9, pA, pn, pc, cA, cn, cc⟩ A n c s W W' → Calls Tryd.prog 37 #[.agg #[.int .i64 p0, .int .i64 p1, .int .i64 p2, .int .i64 p3, .int .i64 p4, .int .i64 p5, .int .i64 p6, .int .i64 p7, .int .u64 p8, .int .u64 p9, .slice pA pn pc, .slice cA cn cc], .slice A n c] W'
      fun e w' => e = .returned (.int .i64 (splitOf p1 p2 p4 (bucketOf l))) ∧ Below W'.heap.size W' w' :=
    fun W' h => ofSplit ⟨p0, p1, p2, p3, p4, p5, p6, p7, p8, p9, pA, pn, pc, cA, cn, cc⟩ A n c l W' (((hr.more hB).below h.2.2).more h.2.2.size) (by omega) (ht.below h.2.2 hw) (by have := h.2.2.size; omega)
  have Q37 := Lib.hid q37
  have q84 : ∀ (x : Int) (W' : World), Calls Tryd.prog 84 #[.agg #[.int .i64 p0, .int .i64 p1, .int .i64 p2, .int .i64 p3, .int .i64 p4, .int .i64 p5, .int .i64 p6, .int .i64 p7, .int .u64 p8, .int .u64 p9, .slice pA pn pc, .slice cA cn cc], .int .i64 x] W' fun e w' => e = .returned (.bool (named p1 p2 p3 p4 x)) ∧ Below W'.heap.size W' w' := fun x W' => planNames ⟨p0, p1, p2, p3, p4, p5, p6, p7, p8, p9, pA, pn, pc, cA, cn, cc⟩ x W'
  have Q84 := Lib.hid q84
  have H0 := Lib.hid h0
  have HJB := Lib.hid hJB
  have HJ := Lib.hid hJ
  have HS : Hid (∀ k x W, ([s, splitOf p1 p2 p4 (bucketOf l), p1, p2, p3] : List Int)[k]? = some x → named p1 p2 p3 p4 x = false → J k W → J (k + 1) W) := Lib.hid hS
  have HY : Hid (∀ k x W, ([s, splitOf p1 p2 p4 (bucketOf l), p1, p2, p3] : List Int)[k]? = some x → named p1 p2 p3 p4 x = true → J k W → YieldAt Fence.wide (m - 1) Tryd.prog lp #[.int .i64 x] W fun e W' => (e = .returned (.bool true) ∧ J (k + 1) W') ∨ (e = .returned (.bool false) ∧ Stop W')) := Lib.hid hY
  clear hJB hJ hS hY h0 q37 q84 hpl ha hal hse hsl hr hB hw ht c0 c1 c2 c3 c4 c5 c6 c7 c8 c9 c10 c11
  generalize splitOf p1 p2 p4 (bucketOf l) = X at *
  refine callsIn_of_wp Tryd.func83 rfl trivial ?_ rfl
  simp only [Tryd.ntmps83, List.size_toArray, List.length_cons, List.length_nil, Nat.reduceAdd, Nat.reduceSub, Array.replicate_succ, Array.replicate_zero, List.push_toArray, List.append_toArray, List.nil_append, List.cons_append]
  gi_wp2
  refine wpIn_wide.2 ?_
  go_region_held3 (fun w' => (w'.cell? ⟨Bp, 0, none⟩ = some (.int .i64 p0) ∧ w'.cell? ⟨Bp, 1, none⟩ = some (.int .i64 p1) ∧ w'.cell? ⟨Bp, 2, none⟩ = some (.int .i64 p2) ∧ w'.cell? ⟨Bp, 3, none⟩ = some (.int .i64 p3) ∧ w'.cell? ⟨Bp, 4, none⟩ = some (.int .i64 p4) ∧ w'.cell? ⟨Bp, 5, none⟩ = some (.int .i64 p5) ∧ w'.cell? ⟨Bp, 6, none⟩ = some (.int .i64 p6) ∧ w'.cell? ⟨Bp, 7, none⟩ = some (.int .i64 p7) ∧ w'.cell? ⟨Bp, 8, none⟩ = some (.int .u64 p8) ∧ w'.cell? ⟨Bp, 9, none⟩ = some (.int .u64 p9) ∧ w'.cell? ⟨Bp, 10, none⟩ = some (.slice pA pn pc) ∧ w'.cell? ⟨Bp, 11, none⟩ = some (.slice cA cn cc)) ∧ (w'.cell? ⟨Bb, 0, none⟩ = some (.slice A n c) ∧ w'.cell? ⟨Bs, 0, none⟩ = some (.int .i64 s)) ∧ Below W.heap.size W w')
    ((first | exact HST.out | assumption | exact SeqIn.step (P := ⟨p0, p1, p2, p3, p4, p5, p6, p7, p8, p9, pA, pn, pc, cA, cn, cc⟩) (by assumption) (by assumption) hgw))
    ((go_at_call 37; refine (Q37.out _ (by assumption)).mono ?_; rintro e w' ⟨rfl, hbc⟩))
  have hh : SeqIn Bs Bp Bb ⟨p0, p1, p2, p3, p4, p5, p6, p7, p8, p9, pA, pn, pc, cA, cn, cc⟩ A n c s W w' := by assumption
  have HJ0 := Lib.hid (HJ.out 0 W w' H0.out hh.2.2)
  clear hh H0 HST Q37
  gi_wp2
  gi_loopw [18] (fun x18 wr => ∃ k : Nat, k ≤ 5 ∧ x18 = .int .i64 (k : Int) ∧ J k wr) (fun x18 _ => 5 - (intOf x18).toNat)
  case atStart => exact ⟨0, by omega, rfl, HJ0.out⟩
  case round =>
    obtain ⟨k, hk, rfl, hJs⟩ := hrel
    clear HJ0
    obtain ⟨⟨c0, c1, c2, c3, c4, c5, c6, c7, c8, c9, c10, c11⟩, _, _, _, _, _, _, _, _, _⟩ := HJB.out k wr hJs
    simp only at c0 c1 c2 c3 c4 c5 c6 c7 c8 c9 c10 c11
    have HJs := Lib.hid hJs
    clear hJs
    by_cases hlt : k < 5
    · obtain ⟨x, hx⟩ : ∃ x, ([s, X, p1, p2, p3] : List Int)[k]? = some x := ⟨_, List.getElem?_eq_getElem (by simp; omega)⟩
      have hidx := index102 s X p1 p2 p3 wr k x hx
      have HX := Lib.hid hx
      clear hx
      gi_wp2
      refine ⟨trivial, (fun h => by cases h), ?_⟩
      refine (callsIn_wide.2 (Q84.out x wr)).mono ?_
      rintro e w2 ⟨rfl, hb2⟩
      have HJ2 := Lib.hid (HJ.out k wr w2 HJs.out hb2)
      clear hb2 hidx c0 c1 c2 c3 c4 c5 c6 c7 c8 c9 c10 c11
      by_cases hna : named p1 p2 p3 p4 x = true
      · rw [hna]
        obtain ⟨fn, tmps, assign, bd, hy, hR⟩ := HY.out k x w2 HX.out hna HJ2.out
        have HR := Lib.hid hR
        have HN := Lib.hid hna
        clear hR hna
        gi_wp2
        refine ⟨(fun h => by cases h), ?_⟩
        refine HR.out.mono ?_
        rintro e W3 (⟨rfl, hJ3⟩ | ⟨rfl, hS3⟩)
        · have HJ3 := Lib.hid hJ3
          clear hJ3 hy
          gi_wp2
          go_roundw
          case rel => exact ⟨k + 1, by omega, by go_num, HJ3.out⟩
          case measure => simp [intOf]; omega
        · have HS3 := Lib.hid hS3
          clear hS3 hy
          gi_wp2
          refine bodyPost_ret (results_none rfl _ _ _) rfl ?_
          exact ⟨⟨_, rfl⟩, .inr HS3.out⟩
      · have hnf : named p1 p2 p3 p4 x = false := by simpa using hna
        rw [hnf]
        have HJ3 := Lib.hid (HS.out k x w2 HX.out hnf HJ2.out)
        clear hna hnf
        gi_wp2
        refine ⟨(fun _ h => by cases h), ?_⟩
        gi_wp2
        go_roundw
        case rel => exact ⟨k + 1, by omega, by go_num, HJ3.out⟩
        case measure => simp [intOf]; omega
    · obtain rfl : k = 5 := by omega
      gi_wp2
      go_end0
      exact ⟨⟨_, rfl⟩, .inl HJs.out⟩
end Go.Proofs.YtddcfgbembjbhaaDoor
