/- Routes: the document's Order: walked. -/
import Derived.Test.YtddcfgbembjbhaaDoorRoute4
namespace Go.Proofs.YtddcfgbembjbhaaDoor
open Go.RowKit
set_option linter.unusedVariables false
set_option linter.unusedSimpArgs false
/-- A plan and a number lie still. -/
def PlanCell (g : Nat) (P : PlanV) (gl i : Nat) (x : Int) (w w' : World) : Prop := PlanAt w' g P ∧ w'.cell? ⟨gl, i, none⟩ = some (.int .i64 x) ∧ Below w.heap.size w w'
theorem PlanCell.step {g gl i : Nat} {P : PlanV} {x : Int} {w w' w'' : World} (h : PlanCell g P gl i x w w') (hb : Below w'.heap.size w' w'') (h1 : g < w.heap.size ∧ gl < w.heap.size) : PlanCell g P gl i x w w'' := by
  have hs := h.2.2.size
  exact ⟨h.1.below hb (by omega), (hb.cell (p := ⟨gl, i, none⟩) (Nat.lt_of_lt_of_le h1.2 hs)).trans h.2.1, h.2.2.trans (hb.mono hs)⟩
theorem take_contains (xs : List Int) (x : Int) (k : Nat) (h : k < xs.length) : (xs.take (k + 1)).contains x = ((xs.take k).contains x || decide (xs.getD k 0 = x)) := by
  rw [List.take_succ_eq_append_getElem h, List.getD_eq_getElem?_getD, List.getElem?_eq_getElem h]
  generalize xs[k] = y
  show _ = (_ || decide (y = x))
  rw [Bool.eq_iff_iff]
  simp
  constructor
  · rintro (h | h)
    · exact .inl h
    · exact .inr h.symm
  · rintro (h | h)
    · exact .inl h
    · exact .inr h.symm
theorem ints_five (W : World) (a b c d e : Int) : IntsAt (W.alloc (.cells #[.int .i64 a, .int .i64 b, .int .i64 c, .int .i64 d, .int .i64 e] 3)) (W.heap.size + 1) (some ⟨W.heap.size, 0, none⟩) 5 [a, b, c, d, e] := by
  refine ⟨rfl, fun _ => ⟨W.heap.size, rfl, by omega, fun j hj => ?_⟩⟩
  have hc : (W.alloc (.cells #[.int .i64 a, .int .i64 b, .int .i64 c, .int .i64 d, .int .i64 e] 3)).cell? ⟨W.heap.size, j, none⟩ = (#[.int .i64 a, .int .i64 b, .int .i64 c, .int .i64 d, .int .i64 e] : Array Value)[j]? := cell_of_row _ _ _ _ _ _ (heap_alloc_new W _)
  rw [hc]
  match j, hj with
  | 0, _ => rfl
  | 1, _ => rfl
  | 2, _ => rfl
  | 3, _ => rfl
  | 4, _ => rfl
set_option maxRecDepth 100000 in
set_option maxHeartbeats 8000000 in
theorem refOrder (P : PlanV) (A : Option Addr) (n c : Nat) (l : List UInt8) (s : Int) (w : World) (hw : 0 < w.heap.size) (hr : BytesAt w w.heap.size A n l) (hn : n ≤ 140737488351232) :
    Calls Tryd.prog 46 #[P.val, .slice A n c, .int .i64 s] w (Ordered w (orderL P.names (P.cand s l))) := by
  have hP := PlanAt.new w P
  have b1 := (Below.refl w.heap.size w).alloc (Nat.le_refl _) (.cells P.cells.toArray 39)
  have hg1 : w.heap.size < (w.alloc (.cells P.cells.toArray 39)).heap.size := by simp
  have hr1 := hr.below b1
  obtain ⟨p0, p1, p2, p3, p4, p5, p6, p7, p8, p9, pA, pn, pc, cA, cn, cc⟩ := P
  simp only [PlanV.val, PlanV.cells] at hP b1 hg1 hr1 ⊢
  have HRES := Lib.hid (show orderL (PlanV.names ⟨p0, p1, p2, p3, p4, p5, p6, p7, p8, p9, pA, pn, pc, cA, cn, cc⟩) (PlanV.cand ⟨p0, p1, p2, p3, p4, p5, p6, p7, p8, p9, pA, pn, pc, cA, cn, cc⟩ s l) = orderL (named p1 p2 p3 p4) [s, splitOf p1 p2 p4 (bucketOf l), p1, p2, p3] from rfl)
  generalize orderL (PlanV.names ⟨p0, p1, p2, p3, p4, p5, p6, p7, p8, p9, pA, pn, pc, cA, cn, cc⟩) (PlanV.cand ⟨p0, p1, p2, p3, p4, p5, p6, p7, p8, p9, pA, pn, pc, cA, cn, cc⟩ s l) = RES at *
  go_enter Tryd.func46, Tryd.ntmps46
  go_wp2_with fail
  generalize w.alloc (.cells #[.int .i64 p0, .int .i64 p1, .int .i64 p2, .int .i64 p3, .int .i64 p4, .int .i64 p5, .int .i64 p6, .int .i64 p7, .int .u64 p8, .int .u64 p9, .slice pA pn pc, .slice cA cn cc] 39) = w1 at *
  have hs1 := b1.size
  obtain ⟨c0, c1, c2, c3, c4, c5, c6, c7, c8, c9, c10, c11⟩ := hP
  simp only at c0 c1 c2 c3 c4 c5 c6 c7 c8 c9 c10 c11
  have HST : Hid (PlanIn w.heap.size ⟨p0, p1, p2, p3, p4, p5, p6, p7, p8, p9, pA, pn, pc, cA, cn, cc⟩ w1 w1.drew) := Lib.hid (PlanIn.start ⟨c0, c1, c2, c3, c4, c5, c6, c7, c8, c9, c10, c11⟩)
  have HSTEP : Hid (∀ (U : World) (ob : Obj), PlanIn w.heap.size ⟨p0, p1, p2, p3, p4, p5, p6, p7, p8, p9, pA, pn, pc, cA, cn, cc⟩ w1 U → PlanIn w.heap.size ⟨p0, p1, p2, p3, p4, p5, p6, p7, p8, p9, pA, pn, pc, cA, cn, cc⟩ w1 (U.alloc ob)) := Lib.hid fun U ob h => h.step ((Below.refl _ U).alloc (Nat.le_refl _) ob) hg1
  have q38 : ∀ W, PlanIn w.heap.size ⟨p0, p1, p2, p3, p4, p5, p6, p7, p8, p9, pA, pn, pc, cA, cn, cc⟩ w1 W → Calls Tryd.prog 38 #[.agg #[.int .i64 p0, .int .i64 p1, .int .i64 p2, .int .i64 p3, .int .i64 p4, .int .i64 p5, .int .i64 p6, .int .i64 p7, .int .u64 p8, .int .u64 p9, .slice pA pn pc, .slice cA cn cc], .slice A n c] W
      fun e w' => e = .returned (.int .i64 (splitOf p1 p2 p4 (bucketOf l))) ∧ Below W.heap.size W w' :=
    fun W h => refSplit ⟨p0, p1, p2, p3, p4, p5, p6, p7, p8, p9, pA, pn, pc, cA, cn, cc⟩ A n c l W (((hr1.more hs1).below h.2).more h.2.size) (by omega)
  have Q38 := Lib.hid q38
  have q49 : ∀ (x : Int) (W' : World), Calls Tryd.prog 49 #[.agg #[.int .i64 p0, .int .i64 p1, .int .i64 p2, .int .i64 p3, .int .i64 p4, .int .i64 p5, .int .i64 p6, .int .i64 p7, .int .u64 p8, .int .u64 p9, .slice pA pn pc, .slice cA cn cc], .int .i64 x] W' fun e w' => e = .returned (.bool (named p1 p2 p3 p4 x)) ∧ Below W'.heap.size W' w' := fun x W' => refNames ⟨p0, p1, p2, p3, p4, p5, p6, p7, p8, p9, pA, pn, pc, cA, cn, cc⟩ x W'
  have Q49 := Lib.hid q49
  have HB1 := Lib.hid b1
  generalize splitOf p1 p2 p4 (bucketOf l) = X at *
  clear hr hr1 q38 q49 b1
  go_region_held3 (fun w' => (w'.cell? ⟨w.heap.size, 0, none⟩ = some (.int .i64 p0) ∧ w'.cell? ⟨w.heap.size, 1, none⟩ = some (.int .i64 p1) ∧ w'.cell? ⟨w.heap.size, 2, none⟩ = some (.int .i64 p2) ∧ w'.cell? ⟨w.heap.size, 3, none⟩ = some (.int .i64 p3) ∧ w'.cell? ⟨w.heap.size, 4, none⟩ = some (.int .i64 p4) ∧ w'.cell? ⟨w.heap.size, 5, none⟩ = some (.int .i64 p5) ∧ w'.cell? ⟨w.heap.size, 6, none⟩ = some (.int .i64 p6) ∧ w'.cell? ⟨w.heap.size, 7, none⟩ = some (.int .i64 p7) ∧ w'.cell? ⟨w.heap.size, 8, none⟩ = some (.int .u64 p8) ∧ w'.cell? ⟨w.heap.size, 9, none⟩ = some (.int .u64 p9) ∧ w'.cell? ⟨w.heap.size, 10, none⟩ = some (.slice pA pn pc) ∧ w'.cell? ⟨w.heap.size, 11, none⟩ = some (.slice cA cn cc)) ∧ Below w1.heap.size w1 w')
    ((first | exact HST.out | assumption | exact HSTEP.out _ _ (by assumption) | exact PlanIn.step (P := ⟨p0, p1, p2, p3, p4, p5, p6, p7, p8, p9, pA, pn, pc, cA, cn, cc⟩) (by assumption) (by assumption) hg1))
    ((go_at_call 38; refine (Q38.out _ (by assumption)).mono ?_; rintro e w' ⟨rfl, hbc⟩))
  have hh : PlanIn w.heap.size ⟨p0, p1, p2, p3, p4, p5, p6, p7, p8, p9, pA, pn, pc, cA, cn, cc⟩ w1 (w'.alloc (.cells #[.int .i64 s, .int .i64 X, .int .i64 p1, .int .i64 p2, .int .i64 p3] 3)) := by assumption
  have hi := ints_five w' s X p1 p2 p3
  have hsz : (w'.alloc (.cells #[.int .i64 s, .int .i64 X, .int .i64 p1, .int .i64 p2, .int .i64 p3] 3)).heap.size = w'.heap.size + 1 := by simp
  have hz1 : w1.heap.size ≤ w'.heap.size := hbc.size
  generalize w'.alloc (.cells #[.int .i64 s, .int .i64 X, .int .i64 p1, .int .i64 p2, .int .i64 p3] 3) = w2 at *
  generalize w'.heap.size = g7 at *
  clear hbc Q38 HST HSTEP c0 c1 c2 c3 c4 c5 c6 c7 c8 c9 c10 c11
  have HB2 := Lib.hid (HB1.out.trans (hh.2.mono hs1))
  have HP2 := Lib.hid hh.1
  have hs2 : w.heap.size ≤ w2.heap.size := HB2.out.size
  have HI := Lib.hid hi
  have hg7 : g7 < w2.heap.size := by omega
  have hgp : w.heap.size < w2.heap.size := by omega
  have HSZ := Lib.hid hsz
  have HCL : Hid (([s, X, p1, p2, p3] : List Int).length = 5) := Lib.hid rfl
  clear hi hh hsz HB1 hz1 hg1 hs1
  generalize hcl : ([s, X, p1, p2, p3] : List Int) = CL at *
  clear hcl
  go_wp2
  go_loopw [8, 9] (fun x8 x9 wr => ∃ (i : Nat) (A2 : Option Addr) (n2 c2 : Nat), i ≤ 5 ∧ x9 = .int .i64 (i : Int) ∧ x8 = .slice A2 n2 c2 ∧ OwnI wr w2.heap.size A2 n2 c2 (upto (named p1 p2 p3 p4) CL i) ∧ Below w2.heap.size w2 wr) (fun _ x9 _ => 5 - (intOf x9).toNat)
  case atStart => exact ⟨0, none, 0, 0, by omega, rfl, rfl, OwnI.nil _ _, Below.refl _ _⟩
  case round =>
    obtain ⟨i, A2, n2, c2, hi5, rfl, rfl, ho, hb⟩ := hrel
    obtain ⟨wO, rfl⟩ : ∃ wO, wO = wr := ⟨_, rfl⟩
    have hn2 : n2 ≤ 10 := by
      have h1 := ho.len
      have h2 := upto_len (named p1 p2 p3 p4) CL i
      omega
    have hsw := hb.size
    by_cases hlt : i < 5
    · have hx : CL[i]? = some (CL.getD i 0) := by rw [List.getD_eq_getElem?_getD, List.getElem?_eq_getElem (by rw [HCL.out]; exact hlt)]; rfl
      have fi : wO.cell? ⟨g7, i, none⟩ = some (.int .i64 (CL.getD i 0)) := by
        obtain ⟨g, e, _, hc⟩ := HI.out.2 (by omega)
        cases e
        exact (hb.cell (p := ⟨g7, i, none⟩) hg7).trans (hc i hlt)
      generalize CL.getD i 0 = x at *
      have HX := Lib.hid hx
      have HO := Lib.hid ho
      have HB := Lib.hid hb
      have HOI := Lib.hid ho.ints
      have HU := Lib.hid (upto_succ (named p1 p2 p3 p4) CL i x hx)
      generalize upto (named p1 p2 p3 p4) CL i = out at *
      clear hx ho hb
      go_wp2
      go_loopw [10, 11] (fun x10 x11 wr' => ∃ k : Nat, k ≤ n2 ∧ x11 = .int .i64 (k : Int) ∧ x10 = .bool ((out.take k).contains x) ∧ Below wO.heap.size wO wr') (fun _ x11 _ => n2 - (intOf x11).toNat)
      case atStart => exact ⟨0, Nat.zero_le _, rfl, rfl, Below.refl _ _⟩
      case round =>
        obtain ⟨k, hkn, rfl, rfl, hbk⟩ := hrel
        have fi' : wr.cell? ⟨g7, i, none⟩ = some (.int .i64 x) := (hbk.cell (p := ⟨g7, i, none⟩) (show g7 < wO.heap.size by omega)).trans fi
        by_cases hlk : k < n2
        · obtain ⟨g8, rfl, hg8, hc8⟩ := HOI.out.2 (by omega)
          have f8 : wr.cell? ⟨g8, k, none⟩ = some (.int .i64 (out.getD k 0)) := (hbk.cell (p := ⟨g8, k, none⟩) hg8).trans (hc8 k hlk)
          have HT := Lib.hid (take_contains out x k (by rw [HO.out.len]; exact hlk))
          generalize (out.take k).contains x = t at *
          generalize out.getD k 0 = y at *
          have HBK := Lib.hid hbk
          clear hbk hc8
          cases t with
          | true =>
            go_wp2
            go_quiet (fail)
            go_wp2
            go_roundw
            case rel => exact ⟨k + 1, by omega, by go_num, by rw [HT.out]; rfl, below_draws HBK.out _⟩
            case measure => simp [intOf]; omega
          | false =>
            by_cases he : y = x
            · rw [he] at f8
              have HE := Lib.hid he
              clear he
              go_wp2
              go_quiet (fail)
              go_wp2
              go_roundw
              case rel => exact ⟨k + 1, by omega, by go_num, by rw [HT.out, decide_eq_true HE.out]; rfl, below_draws HBK.out _⟩
              case measure => simp [intOf]; omega
            · go_wp2
              go_quiet (fail)
              go_wp2
              go_roundw
              case rel => exact ⟨k + 1, by omega, by go_num, by rw [HT.out]; simp [he], below_draws HBK.out _⟩
              case measure => simp [intOf]; omega
        · obtain rfl : k = n2 := by omega
          have htk : out.take k = out := List.take_of_length_le (by rw [HO.out.len]; omega)
          rw [htk]
          generalize htt : out.contains x = t at *
          have HTT := Lib.hid htt
          have hP3 := (HP2.out.below HB.out hgp).below hbk (by omega)
          obtain ⟨c0, c1, c2', c3, c4, c5, c6, c7, c8, c9, c10, c11⟩ := hP3
          simp only at c0 c1 c2' c3 c4 c5 c6 c7 c8 c9 c10 c11
          have HST : Hid (PlanCell w.heap.size ⟨p0, p1, p2, p3, p4, p5, p6, p7, p8, p9, pA, pn, pc, cA, cn, cc⟩ g7 i x wr wr.drew) := Lib.hid ⟨⟨c0, c1, c2', c3, c4, c5, c6, c7, c8, c9, c10, c11⟩, fi', (Below.refl _ wr).drew⟩
          have hzr := hbk.size
          have hgg : w.heap.size < wr.heap.size ∧ g7 < wr.heap.size := ⟨by omega, by omega⟩
          have HBK := Lib.hid hbk
          clear hbk htk htt c0 c1 c2' c3 c4 c5 c6 c7 c8 c9 c10 c11 fi
          go_wp2
          go_region_held3 (fun w' => (w'.cell? ⟨w.heap.size, 0, none⟩ = some (.int .i64 p0) ∧ w'.cell? ⟨w.heap.size, 1, none⟩ = some (.int .i64 p1) ∧ w'.cell? ⟨w.heap.size, 2, none⟩ = some (.int .i64 p2) ∧ w'.cell? ⟨w.heap.size, 3, none⟩ = some (.int .i64 p3) ∧ w'.cell? ⟨w.heap.size, 4, none⟩ = some (.int .i64 p4) ∧ w'.cell? ⟨w.heap.size, 5, none⟩ = some (.int .i64 p5) ∧ w'.cell? ⟨w.heap.size, 6, none⟩ = some (.int .i64 p6) ∧ w'.cell? ⟨w.heap.size, 7, none⟩ = some (.int .i64 p7) ∧ w'.cell? ⟨w.heap.size, 8, none⟩ = some (.int .u64 p8) ∧ w'.cell? ⟨w.heap.size, 9, none⟩ = some (.int .u64 p9) ∧ w'.cell? ⟨w.heap.size, 10, none⟩ = some (.slice pA pn pc) ∧ w'.cell? ⟨w.heap.size, 11, none⟩ = some (.slice cA cn cc)) ∧ w'.cell? ⟨g7, i, none⟩ = some (.int .i64 x) ∧ Below wr.heap.size wr w')
            ((first | exact HST.out | assumption | exact PlanCell.step (P := ⟨p0, p1, p2, p3, p4, p5, p6, p7, p8, p9, pA, pn, pc, cA, cn, cc⟩) (by assumption) (by assumption) hgg))
            ((go_at_call 49; refine (Q49.out x _).mono ?_; rintro e w3 ⟨rfl, hb3⟩))
          have hh3 : PlanCell w.heap.size ⟨p0, p1, p2, p3, p4, p5, p6, p7, p8, p9, pA, pn, pc, cA, cn, cc⟩ g7 i x wr w3 := by assumption
          have f3 := hh3.2.1
          have bO3 := HBK.out.trans (hh3.2.2.mono HBK.out.size)
          have b23 := HB.out.trans (bO3.mono HB.out.size)
          have HB3 := Lib.hid b23
          have H3 := Lib.hid (HO.out.later bO3)
          have hz3 := HB3.out.size
          clear hh3 hb3 bO3 b23
          generalize hna : named p1 p2 p3 p4 x = na at *
          have HNA := Lib.hid hna
          clear hna
          cases na with
          | false =>
            go_wp2
            go_roundw
            case rel => exact ⟨i + 1, A2, k, c2, by omega, by go_num, rfl, by rw [HU.out]; unfold once; rw [HNA.out]; exact H3.out, HB3.out⟩
            case measure => simp [intOf]; omega
          | true =>
            cases t with
            | true =>
              go_wp2
              go_roundw
              case rel => exact ⟨i + 1, A2, k, c2, by omega, by go_num, rfl, by rw [HU.out]; unfold once; rw [HNA.out, HTT.out]; exact H3.out, HB3.out⟩
              case measure => simp [intOf]; omega
            | false =>
              go_wp2_with (at_builtin; refine wpList_append_int rfl (.tmp 59) (.tmp 64) rfl rfl (H3.out.alloc _) rfl (Boxed.new w3 3 _).cell (by omega) (by simp; omega) ?_; intro A4 c4 w4 ho4 hg4; have HO4 := Lib.hid ho4; have B4 := Lib.hid (below_grownI (HB3.out.alloc hz3 _) (by simp; omega) (H3.out.alloc _) hg4); clear ho4 hg4)
              go_roundw
              case rel => exact ⟨i + 1, A4, k + 1, c4, by omega, by go_num, rfl, by rw [HU.out]; unfold once; rw [HNA.out, HTT.out]; exact HO4.out, B4.out⟩
              case measure => simp [intOf]; omega
    · obtain rfl : i = 5 := by omega
      rw [upto_all _ _ _ (by rw [HCL.out]; omega)] at ho
      rw [← HRES.out] at ho
      have HO := Lib.hid ho
      have HB := Lib.hid (HB2.out.trans (hb.mono hs2))
      clear ho hb
      go_wp2
      go_ret
      exact ⟨A2, n2, c2, rfl, HO.out.lower hs2, HB.out⟩
end Go.Proofs.YtddcfgbembjbhaaDoor
