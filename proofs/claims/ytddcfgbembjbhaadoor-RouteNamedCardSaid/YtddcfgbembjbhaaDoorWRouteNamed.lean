/- The law RouteNamed, walked. -/
import Derived.Test.YtddcfgbembjbhaaDoorWRouteAll
namespace Go.Proofs.YtddcfgbembjbhaaDoor
open Go.RowKit
set_option linter.unusedVariables false
set_option linter.unusedSimpArgs false
/-- How often x stands among the first k. -/
def cnt (xs : List Int) (x : Int) (k : Nat) : Nat := (xs.take k).count x
theorem cnt_succ (xs : List Int) (x : Int) (k : Nat) (h : k < xs.length) : cnt xs x (k + 1) = cnt xs x k + (if xs.getD k 0 = x then 1 else 0) := by
  unfold cnt
  rw [List.take_succ_eq_append_getElem h, List.count_append, List.getD_eq_getElem?_getD, List.getElem?_eq_getElem h]
  show _ + List.count x [xs[k]] = _ + (if xs[k] = x then 1 else 0)
  rw [List.count_singleton]
  by_cases e : xs[k] = x
  · simp [e]
  · simp [e]
theorem cnt_le (xs : List Int) (x : Int) (k : Nat) : cnt xs x k ≤ k := by
  unfold cnt
  exact Nat.le_trans List.count_le_length (by rw [List.length_take]; omega)
theorem cand_names {P : PlanV} {s : Int} {l : List UInt8} {x : Int} (h : P.names x = true) : x ∈ P.cand s l := by
  have := (named_of h).2
  unfold PlanV.cand
  rcases this with e | e | e <;> simp [e]
/-- Each that is named stands there once, others do not. -/
theorem cnt_all (P : PlanV) (s : Int) (l : List UInt8) (x : Int) (k : Nat) (hk : (orderL P.names (P.cand s l)).length ≤ k) : cnt (orderL P.names (P.cand s l)) x k = if P.names x then 1 else 0 := by
  unfold cnt
  rw [List.take_of_length_le hk]
  by_cases h : P.names x = true
  · have hm : x ∈ orderL P.names (P.cand s l) := (order_mem _ _ _).2 ⟨cand_names h, h⟩
    rw [if_pos h]
    have h1 := List.nodup_iff_count.1 (order_nodup P.names (P.cand s l)) x
    have h2 := List.count_pos_iff.2 hm
    omega
  · rw [if_neg h, List.count_eq_zero]
    exact fun hm => h (order_named _ _ x hm)
/-- How many below i are named. -/
def sumN (f : Int → Bool) : Nat → Nat
  | 0 => 0
  | i + 1 => sumN f i + (if f (i : Int) then 1 else 0)
def under (a : Int) (i : Nat) : Nat := if 0 ≤ a ∧ a < (i : Int) then 1 else 0
theorem under_succ (a : Int) (i : Nat) : under a (i + 1) = under a i + (if a = (i : Int) then 1 else 0) := by
  unfold under
  by_cases h0 : 0 ≤ a
  · by_cases h1 : a < (i : Int)
    · rw [if_pos ⟨h0, by omega⟩, if_pos ⟨h0, h1⟩, if_neg (by omega)]
    · by_cases h2 : a = (i : Int)
      · rw [if_pos ⟨h0, by omega⟩, if_neg (fun h => h1 h.2), if_pos h2]
      · rw [if_neg (fun h => by omega), if_neg (fun h => h1 h.2), if_neg h2]
  · rw [if_neg (fun h => h0 h.1), if_neg (fun h => h0 h.1), if_neg (by omega)]
theorem under_le (a : Int) (i : Nat) : under a i ≤ 1 := by unfold under; split <;> omega
theorem sumN_le (P : PlanV) : ∀ i : Nat, sumN P.names i ≤ under P.target i + under P.prev i + under P.spill i
  | 0 => by unfold sumN; omega
  | i + 1 => by
    have ih := sumN_le P i
    unfold sumN
    rw [under_succ, under_succ, under_succ]
    by_cases h : P.names (i : Int) = true
    · rw [if_pos h]
      rcases (named_of h).2 with e | e | e
      · rw [if_pos e.symm]; omega
      · rw [if_pos (c := P.prev = (i : Int)) e.symm]; omega
      · rw [if_pos (c := P.spill = (i : Int)) e.symm]; omega
    · rw [if_neg h]; omega
theorem sumN_three (P : PlanV) (i : Nat) : sumN P.names i ≤ 3 := by
  have := sumN_le P i
  have := under_le P.target i
  have := under_le P.prev i
  have := under_le P.spill i
  omega
theorem picked_is (g f : Int → Bool) (c : List Int) : pickL g f c = -1 ∨ (f (pickL g f c) = true ∧ g (pickL g f c) = true) := by
  unfold pickL
  cases h : (c.filter f).find? g with
  | none => exact .inl rfl
  | some x => exact .inr ⟨(List.mem_filter.1 (List.mem_of_find?_eq_some h)).2, List.find?_some h⟩
theorem picked_first (P : PlanV) (s : Int) (l : List UInt8) (g : Int → Bool) (h1 : P.names s = true) (h2 : g s = true) : pickL g P.names (P.cand s l) = s := by
  unfold pickL PlanV.cand
  rw [List.filter_cons_of_pos h1, List.find?_cons_of_pos h2]
  rfl

set_option maxRecDepth 100000 in
set_option maxHeartbeats 8000000 in
theorem walkRouteNamed (w : World) (hw : 0 < w.heap.size) (ht : Four w) (P : PlanV) (hPo : P.Ok) (A : Option Addr) (n c : Nat) (l : List UInt8) (hr : BytesAt w w.heap.size A n l) (hc : n ≤ c) (hn : c ≤ 140737488351232)
    (s : Int) (hs : -9223372036854775808 ≤ s ∧ s ≤ 9223372036854775807) (T : Int) (hT : 0 ≤ T ∧ T ≤ 18446744073709551615) :
    Calls Tryd.prog 18 #[P.val, .slice A n c, .int .i64 s, .int .u64 T] w fun e w' => e = .returned (.bool true) ∧ Below w.heap.size w w' := by
  obtain ⟨T, rfl⟩ := Int.eq_ofNat_of_zero_le hT.1
  have hT' : T < 18446744073709551616 := by omega
  have hP := PlanAt.new w P
  have b1 := (Below.refl w.heap.size w).alloc (Nat.le_refl _) (.cells P.cells.toArray 39)
  have hg1 : w.heap.size < (w.alloc (.cells P.cells.toArray 39)).heap.size := by simp
  have hlen := order_len P.names (P.cand s l)
  have hcl : (P.cand s l).length = 5 := rfl
  rw [hcl] at hlen
  have HLEN := Lib.hid hlen
  have HCNT : Hid (∀ (x : Int) (k : Nat), (orderL P.names (P.cand s l)).length ≤ k → cnt (orderL P.names (P.cand s l)) x k = if P.names x then 1 else 0) := Lib.hid fun x k hk => cnt_all P s l x k hk
  have HS3 := Lib.hid (sumN_three P 16)
  have HPI := Lib.hid (picked_is (free T) P.names (P.cand s l))
  have HPF := Lib.hid (picked_first P s l (free T))
  have HNN : Hid (∀ x, P.names x = true → 0 ≤ x) := Lib.hid fun x h => names_nonneg h
  obtain ⟨p0, p1, p2, p3, p4, p5, p6, p7, p8, p9, pA, pn, pc, cA, cn, cc⟩ := P
  simp only [PlanV.val, PlanV.cells] at hP b1 hg1 ⊢
  clear hlen hcl
  go_enter Tryd.func18, Tryd.ntmps18
  go_wp2_with fail
  generalize w.alloc (.cells #[.int .i64 p0, .int .i64 p1, .int .i64 p2, .int .i64 p3, .int .i64 p4, .int .i64 p5, .int .i64 p6, .int .i64 p7, .int .u64 p8, .int .u64 p9, .slice pA pn pc, .slice cA cn cc] 39) = w1 at *
  refine (head21 w1 (by omega) (ht.below b1 hw)).mono ?_
  rintro e w2 ⟨rfl, b2⟩
  have hP2 := hP.below b2 hg1
  have b3 := b1.trans (b2.mono b1.size)
  have hs2 := b2.size
  have hr2 := hr.below b3
  have ht2 := ht.below b3 hw
  have HB3 := Lib.hid b3
  have hgw : w.heap.size < w2.heap.size := by omega
  have hle : w.heap.size ≤ w2.heap.size := b3.size
  have HP2 := Lib.hid hP2
  obtain ⟨c0, c1, c2, c3, c4, c5, c6, c7, c8, c9, c10, c11⟩ := hP2
  simp only at c0 c1 c2 c3 c4 c5 c6 c7 c8 c9 c10 c11
  have HR2 := Lib.hid hr2
  have HT2 := Lib.hid ht2
  clear hP b2 b1 b3 hr ht hr2 ht2
  go_wp2_with fail
  refine (routeOrder ⟨p0, p1, p2, p3, p4, p5, p6, p7, p8, p9, pA, pn, pc, cA, cn, cc⟩ A n c l s w2 (by omega) HT2.out (HR2.out.more hle) (by omega)).mono ?_
  rintro e w3 ⟨A3, n3, c3', rfl, ho3, hb3⟩
  have HPK : Hid (∀ (W : World), Below w2.heap.size w2 W → Calls Tryd.prog 47 #[.agg #[.int .i64 p0, .int .i64 p1, .int .i64 p2, .int .i64 p3, .int .i64 p4, .int .i64 p5, .int .i64 p6, .int .i64 p7, .int .u64 p8, .int .u64 p9, .slice pA pn pc, .slice cA cn cc], .slice A n c, .int .i64 s, .int .u64 (T : Int)] W fun e w' => e = .returned (.int .i64 (pickL (free T) (PlanV.names ⟨p0, p1, p2, p3, p4, p5, p6, p7, p8, p9, pA, pn, pc, cA, cn, cc⟩) (PlanV.cand ⟨p0, p1, p2, p3, p4, p5, p6, p7, p8, p9, pA, pn, pc, cA, cn, cc⟩ s l))) ∧ Below W.heap.size W w') := Lib.hid fun W hb =>
    routePick ⟨p0, p1, p2, p3, p4, p5, p6, p7, p8, p9, pA, pn, pc, cA, cn, cc⟩ A n c l s T hT' W (by have := hb.size; omega) (HT2.out.below hb (by omega)) (((HR2.out.more hle).below hb).more hb.size) (by omega)
  have Q49 : Hid (∀ (x : Int) (W' : World), Calls Tryd.prog 49 #[.agg #[.int .i64 p0, .int .i64 p1, .int .i64 p2, .int .i64 p3, .int .i64 p4, .int .i64 p5, .int .i64 p6, .int .i64 p7, .int .u64 p8, .int .u64 p9, .slice pA pn pc, .slice cA cn cc], .int .i64 x] W' fun e w' => e = .returned (.bool (PlanV.names ⟨p0, p1, p2, p3, p4, p5, p6, p7, p8, p9, pA, pn, pc, cA, cn, cc⟩ x)) ∧ Below W'.heap.size W' w') := Lib.hid fun x W' => refNames ⟨p0, p1, p2, p3, p4, p5, p6, p7, p8, p9, pA, pn, pc, cA, cn, cc⟩ x W'
  have H3 := Lib.hid ho3.ints
  have hn3 := ho3.len
  have HB23 := Lib.hid hb3
  have hz3 := hb3.size
  clear ho3 hb3 c0 c1 c2 c3 c4 c5 c6 c7 c8 c9 c10 c11
  generalize pickL (free T) (PlanV.names ⟨p0, p1, p2, p3, p4, p5, p6, p7, p8, p9, pA, pn, pc, cA, cn, cc⟩) (PlanV.cand ⟨p0, p1, p2, p3, p4, p5, p6, p7, p8, p9, pA, pn, pc, cA, cn, cc⟩ s l) = PK at *
  generalize orderL (PlanV.names ⟨p0, p1, p2, p3, p4, p5, p6, p7, p8, p9, pA, pn, pc, cA, cn, cc⟩) (PlanV.cand ⟨p0, p1, p2, p3, p4, p5, p6, p7, p8, p9, pA, pn, pc, cA, cn, cc⟩ s l) = out at *
  generalize PlanV.names ⟨p0, p1, p2, p3, p4, p5, p6, p7, p8, p9, pA, pn, pc, cA, cn, cc⟩ = nm at *
  have hn5 : n3 ≤ 5 := by have := HLEN.out; omega
  go_wp2_with fail
  go_loopw [11, 12] (fun x11 x12 wr => ∃ i : Nat, i ≤ 16 ∧ x11 = .int .i64 ((sumN nm i : Nat) : Int) ∧ x12 = .int .i64 (i : Int) ∧ Below w3.heap.size w3 wr) (fun _ x12 _ => 16 - (intOf x12).toNat)
  case atStart => exact ⟨0, Nat.zero_le _, rfl, rfl, Below.refl _ _⟩
  case round =>
    obtain ⟨i, hi, rfl, rfl, hb⟩ := hrel
    obtain ⟨wO, rfl⟩ : ∃ wO, wO = wr := ⟨_, rfl⟩
    have hb2 := HB23.out.trans (hb.mono hz3)
    obtain ⟨c0, c1, c2, c3, c4, c5, c6, c7, c8, c9, c10, c11⟩ := HP2.out.below hb2 hgw
    simp only at c0 c1 c2 c3 c4 c5 c6 c7 c8 c9 c10 c11
    by_cases hlt : i < 16
    · have HB := Lib.hid hb
      have H3O := Lib.hid (H3.out.below hb)
      have HC0 : Hid (cnt out (i : Int) 0 = 0) := Lib.hid rfl
      have HSN : Hid (sumN nm (i + 1) = sumN nm i + (if nm (i : Int) then 1 else 0)) := Lib.hid rfl
      have hsm : sumN nm i ≤ 16 := by
        have : ∀ j : Nat, sumN nm j ≤ j := fun j => by
          induction j with
          | zero => simp [sumN]
          | succ j ih => unfold sumN; split <;> omega
        have := this i
        omega
      generalize sumN nm i = SN at *
      clear hb hb2
      go_wp2_with fail
      go_loopw [13, 14] (fun x13 x14 wr' => ∃ k : Nat, k ≤ n3 ∧ x13 = .int .i64 ((cnt out (i : Int) k : Nat) : Int) ∧ x14 = .int .i64 (k : Int) ∧ wO = wr') (fun _ x14 _ => n3 - (intOf x14).toNat)
      case atStart => exact ⟨0, Nat.zero_le _, by rw [HC0.out]; rfl, rfl, rfl⟩
      case round =>
        obtain ⟨k, hk, rfl, rfl, rfl⟩ := hrel
        by_cases hlk : k < n3
        · obtain ⟨g3, rfl, hg3, hc3⟩ := H3O.out.2 (by omega)
          have f3 := hc3 k hlk
          have HC := Lib.hid (cnt_succ out (i : Int) k (by omega))
          have hcl := cnt_le out (i : Int) k
          generalize out.getD k 0 = y at *
          generalize cnt out (i : Int) k = ck at *
          clear hc3
          by_cases he : y = (i : Int)
          · rw [he] at f3
            have HE := Lib.hid he
            clear he
            go_wp2_with fail
            go_roundw
            case rel => exact ⟨k + 1, by omega, by rw [HC.out, if_pos HE.out]; go_num, by go_num, by trivial⟩
            case measure => simp [intOf]; omega
          · go_wp2_with fail
            go_roundw
            case rel => exact ⟨k + 1, by omega, by rw [HC.out, if_neg he]; go_num, by go_num, by trivial⟩
            case measure => simp [intOf]; omega
        · obtain rfl : k = n3 := by omega
          rw [HCNT.out (i : Int) k (by omega)]
          have HNI := Lib.hid (Q49.out (i : Int) wO)
          cases hnm : nm (i : Int) with
          | true =>
            rw [hnm] at HNI HSN
            clear hnm
            simp only [if_true] at HSN ⊢
            go_wp2_with fail
            refine HNI.out.mono ?_
            rintro e w5 ⟨rfl, hb5⟩
            have HB5 := Lib.hid (HB.out.trans (hb5.mono HB.out.size))
            clear hb5 c0 c1 c2 c3 c4 c5 c6 c7 c8 c9 c10 c11
            go_wp2_with fail
            go_roundw
            case rel => exact ⟨i + 1, by omega, by rw [HSN.out]; go_num, by go_num, HB5.out⟩
            case measure => simp [intOf]; omega
          | false =>
            rw [hnm] at HNI HSN
            clear hnm
            simp only [Bool.false_eq_true, if_false] at HSN ⊢
            go_wp2_with fail
            refine HNI.out.mono ?_
            rintro e w5 ⟨rfl, hb5⟩
            have HB5 := Lib.hid (HB.out.trans (hb5.mono HB.out.size))
            clear hb5 c0 c1 c2 c3 c4 c5 c6 c7 c8 c9 c10 c11
            go_wp2_with fail
            go_roundw
            case rel => exact ⟨i + 1, by omega, by rw [HSN.out]; go_num, by go_num, HB5.out⟩
            case measure => simp [intOf]; omega
    · obtain rfl : i = 16 := by omega
      have hS3 := HS3.out
      generalize sumN nm 16 = SN at *
      have HB2O := Lib.hid hb2
      clear hb hb2
      go_wp2_with fail
      refine (HPK.out wO HB2O.out).mono ?_
      rintro e w6 ⟨rfl, hb6⟩
      have b26 := HB2O.out.trans (hb6.mono HB2O.out.size)
      have HB6 := Lib.hid (HB3.out.trans (b26.mono hle))
      have HP6 := Lib.hid (HP2.out.below b26 hgw)
      obtain ⟨d0, d1, d2, d3, d4, d5, d6, d7, d8, d9, d10, d11⟩ := HP2.out.below b26 hgw
      simp only at d0 d1 d2 d3 d4 d5 d6 d7 d8 d9 d10 d11
      have hg6 : w.heap.size < w6.heap.size := by have := b26.size; omega
      clear hb6 b26 c0 c1 c2 c3 c4 c5 c6 c7 c8 c9 c10 c11 hlt
      rcases HPI.out with hPK | ⟨hPn, hPf⟩
      · subst hPK
        by_cases hs0 : s < 0
        · skip
          go_wp2_with fail
          go_ret
          exact ⟨by first | (simp; done) | (simp; omega), HB6.out⟩
        by_cases hs1 : 63 < s
        · skip
          go_wp2_with fail
          go_ret
          exact ⟨by first | (simp; done) | (simp; omega), HB6.out⟩
        obtain ⟨sk, rfl⟩ := Int.eq_ofNat_of_zero_le (show 0 ≤ s by omega)
        by_cases hsn : nm (sk : Int) = true
        rotate_left
        · have HSn := Lib.hid (show nm (sk : Int) = false by simpa using hsn)
          clear hsn
          go_wp2_with fail
          refine (Q49.out _ w6).mono ?_
          rintro e w8 ⟨rfl, b8⟩
          rw [HSn.out]
          have HB8 := Lib.hid (HB6.out.trans (b8.mono HB6.out.size))
          clear b8
          go_wp2_with fail
          go_ret
          exact ⟨by first | (simp; done) | (simp; omega), HB8.out⟩
        have HSn := Lib.hid hsn
        clear hsn
        obtain ⟨Bz, z1, z3⟩ := free_shr T sk hT' (by omega)
        have z2 : bits .and .u64 ((T : Int) / 2 ^ ((sk : Int).toNat)) 1 = Bz := by rw [Int.toNat_natCast]; exact z1
        by_cases hz : Bz = 0
        rotate_left
        · clear z3
          go_wp2_with fail
          refine (Q49.out _ w6).mono ?_
          rintro e w8 ⟨rfl, b8⟩
          rw [HSn.out]
          have HB8 := Lib.hid (HB6.out.trans (b8.mono HB6.out.size))
          clear b8
          go_wp2_with fail
          go_ret
          exact ⟨by first | (simp; done) | (simp; omega), HB8.out⟩
        have hsf : free (T : Int) (sk : Int) = true := by rw [← z3, hz]; rfl
        subst hz
        clear z3
        have := HPF.out HSn.out hsf
        omega
      · have hp0 := HNN.out _ hPn
        have HPn := Lib.hid hPn
        clear hPn
        by_cases hp63 : 63 < PK
        · clear hPf
          by_cases hs0 : s < 0
          · skip
            go_wp2_with fail
            refine (Q49.out _ w6).mono ?_
            rintro e w7 ⟨rfl, b7⟩
            rw [HPn.out]
            have HB7 := Lib.hid (HB6.out.trans (b7.mono HB6.out.size))
            obtain ⟨e0, e1, e2, e3, e4, e5, e6, e7, e8, e9, e10, e11⟩ := HP6.out.below b7 hg6
            simp only at e0 e1 e2 e3 e4 e5 e6 e7 e8 e9 e10 e11
            clear b7 d0 d1 d2 d3 d4 d5 d6 d7 d8 d9 d10 d11
            go_wp2_with fail
            go_ret
            exact ⟨by first | (simp; done) | (simp; omega), HB7.out⟩
          by_cases hs1 : 63 < s
          · skip
            go_wp2_with fail
            refine (Q49.out _ w6).mono ?_
            rintro e w7 ⟨rfl, b7⟩
            rw [HPn.out]
            have HB7 := Lib.hid (HB6.out.trans (b7.mono HB6.out.size))
            obtain ⟨e0, e1, e2, e3, e4, e5, e6, e7, e8, e9, e10, e11⟩ := HP6.out.below b7 hg6
            simp only at e0 e1 e2 e3 e4 e5 e6 e7 e8 e9 e10 e11
            clear b7 d0 d1 d2 d3 d4 d5 d6 d7 d8 d9 d10 d11
            go_wp2_with fail
            go_ret
            exact ⟨by first | (simp; done) | (simp; omega), HB7.out⟩
          obtain ⟨sk, rfl⟩ := Int.eq_ofNat_of_zero_le (show 0 ≤ s by omega)
          by_cases hsn : nm (sk : Int) = true
          rotate_left
          · have HSn := Lib.hid (show nm (sk : Int) = false by simpa using hsn)
            clear hsn
            go_wp2_with fail
            refine (Q49.out _ w6).mono ?_
            rintro e w7 ⟨rfl, b7⟩
            rw [HPn.out]
            have HB7 := Lib.hid (HB6.out.trans (b7.mono HB6.out.size))
            obtain ⟨e0, e1, e2, e3, e4, e5, e6, e7, e8, e9, e10, e11⟩ := HP6.out.below b7 hg6
            simp only at e0 e1 e2 e3 e4 e5 e6 e7 e8 e9 e10 e11
            clear b7 d0 d1 d2 d3 d4 d5 d6 d7 d8 d9 d10 d11
            go_wp2_with fail
            refine (Q49.out _ w7).mono ?_
            rintro e w8 ⟨rfl, b8⟩
            rw [HSn.out]
            have HB8 := Lib.hid (HB7.out.trans (b8.mono HB7.out.size))
            clear b8
            go_wp2_with fail
            go_ret
            exact ⟨by first | (simp; done) | (simp; omega), HB8.out⟩
          have HSn := Lib.hid hsn
          clear hsn
          obtain ⟨Bz, z1, z3⟩ := free_shr T sk hT' (by omega)
          have z2 : bits .and .u64 ((T : Int) / 2 ^ ((sk : Int).toNat)) 1 = Bz := by rw [Int.toNat_natCast]; exact z1
          by_cases hz : Bz = 0
          rotate_left
          · clear z3
            go_wp2_with fail
            refine (Q49.out _ w6).mono ?_
            rintro e w7 ⟨rfl, b7⟩
            rw [HPn.out]
            have HB7 := Lib.hid (HB6.out.trans (b7.mono HB6.out.size))
            obtain ⟨e0, e1, e2, e3, e4, e5, e6, e7, e8, e9, e10, e11⟩ := HP6.out.below b7 hg6
            simp only at e0 e1 e2 e3 e4 e5 e6 e7 e8 e9 e10 e11
            clear b7 d0 d1 d2 d3 d4 d5 d6 d7 d8 d9 d10 d11
            go_wp2_with fail
            refine (Q49.out _ w7).mono ?_
            rintro e w8 ⟨rfl, b8⟩
            rw [HSn.out]
            have HB8 := Lib.hid (HB7.out.trans (b8.mono HB7.out.size))
            clear b8
            go_wp2_with fail
            go_ret
            exact ⟨by first | (simp; done) | (simp; omega), HB8.out⟩
          have hsf : free (T : Int) (sk : Int) = true := by rw [← z3, hz]; rfl
          subst hz
          clear z3
          have := HPF.out HSn.out hsf
          omega
        · obtain ⟨m, rfl⟩ := Int.eq_ofNat_of_zero_le hp0
          obtain ⟨By, y1, y3⟩ := free_shr T m hT' (by omega)
          have y2 : bits .and .u64 ((T : Int) / 2 ^ ((m : Int).toNat)) 1 = By := by rw [Int.toNat_natCast]; exact y1
          have hBy : By = 0 := by rw [hPf] at y3; exact of_decide_eq_true y3
          subst hBy
          clear y3 hPf
          by_cases hs0 : s < 0
          · skip
            go_wp2_with fail
            refine (Q49.out _ w6).mono ?_
            rintro e w7 ⟨rfl, b7⟩
            rw [HPn.out]
            have HB7 := Lib.hid (HB6.out.trans (b7.mono HB6.out.size))
            obtain ⟨e0, e1, e2, e3, e4, e5, e6, e7, e8, e9, e10, e11⟩ := HP6.out.below b7 hg6
            simp only at e0 e1 e2 e3 e4 e5 e6 e7 e8 e9 e10 e11
            clear b7 d0 d1 d2 d3 d4 d5 d6 d7 d8 d9 d10 d11
            go_wp2_with fail
            go_ret
            exact ⟨by first | (simp; done) | (simp; omega), HB7.out⟩
          by_cases hs1 : 63 < s
          · skip
            go_wp2_with fail
            refine (Q49.out _ w6).mono ?_
            rintro e w7 ⟨rfl, b7⟩
            rw [HPn.out]
            have HB7 := Lib.hid (HB6.out.trans (b7.mono HB6.out.size))
            obtain ⟨e0, e1, e2, e3, e4, e5, e6, e7, e8, e9, e10, e11⟩ := HP6.out.below b7 hg6
            simp only at e0 e1 e2 e3 e4 e5 e6 e7 e8 e9 e10 e11
            clear b7 d0 d1 d2 d3 d4 d5 d6 d7 d8 d9 d10 d11
            go_wp2_with fail
            go_ret
            exact ⟨by first | (simp; done) | (simp; omega), HB7.out⟩
          obtain ⟨sk, rfl⟩ := Int.eq_ofNat_of_zero_le (show 0 ≤ s by omega)
          by_cases hsn : nm (sk : Int) = true
          rotate_left
          · have HSn := Lib.hid (show nm (sk : Int) = false by simpa using hsn)
            clear hsn
            go_wp2_with fail
            refine (Q49.out _ w6).mono ?_
            rintro e w7 ⟨rfl, b7⟩
            rw [HPn.out]
            have HB7 := Lib.hid (HB6.out.trans (b7.mono HB6.out.size))
            obtain ⟨e0, e1, e2, e3, e4, e5, e6, e7, e8, e9, e10, e11⟩ := HP6.out.below b7 hg6
            simp only at e0 e1 e2 e3 e4 e5 e6 e7 e8 e9 e10 e11
            clear b7 d0 d1 d2 d3 d4 d5 d6 d7 d8 d9 d10 d11
            go_wp2_with fail
            refine (Q49.out _ w7).mono ?_
            rintro e w8 ⟨rfl, b8⟩
            rw [HSn.out]
            have HB8 := Lib.hid (HB7.out.trans (b8.mono HB7.out.size))
            clear b8
            go_wp2_with fail
            go_ret
            exact ⟨by first | (simp; done) | (simp; omega), HB8.out⟩
          have HSn := Lib.hid hsn
          clear hsn
          obtain ⟨Bz, z1, z3⟩ := free_shr T sk hT' (by omega)
          have z2 : bits .and .u64 ((T : Int) / 2 ^ ((sk : Int).toNat)) 1 = Bz := by rw [Int.toNat_natCast]; exact z1
          by_cases hz : Bz = 0
          rotate_left
          · clear z3
            go_wp2_with fail
            refine (Q49.out _ w6).mono ?_
            rintro e w7 ⟨rfl, b7⟩
            rw [HPn.out]
            have HB7 := Lib.hid (HB6.out.trans (b7.mono HB6.out.size))
            obtain ⟨e0, e1, e2, e3, e4, e5, e6, e7, e8, e9, e10, e11⟩ := HP6.out.below b7 hg6
            simp only at e0 e1 e2 e3 e4 e5 e6 e7 e8 e9 e10 e11
            clear b7 d0 d1 d2 d3 d4 d5 d6 d7 d8 d9 d10 d11
            go_wp2_with fail
            refine (Q49.out _ w7).mono ?_
            rintro e w8 ⟨rfl, b8⟩
            rw [HSn.out]
            have HB8 := Lib.hid (HB7.out.trans (b8.mono HB7.out.size))
            clear b8
            go_wp2_with fail
            go_ret
            exact ⟨by first | (simp; done) | (simp; omega), HB8.out⟩
          have hsf : free (T : Int) (sk : Int) = true := by rw [← z3, hz]; rfl
          subst hz
          clear z3
          have hps := HPF.out HSn.out hsf
          obtain rfl : m = sk := by omega
          clear hps hsf
          go_wp2_with fail
          refine (Q49.out _ w6).mono ?_
          rintro e w7 ⟨rfl, b7⟩
          rw [HPn.out]
          have HB7 := Lib.hid (HB6.out.trans (b7.mono HB6.out.size))
          obtain ⟨e0, e1, e2, e3, e4, e5, e6, e7, e8, e9, e10, e11⟩ := HP6.out.below b7 hg6
          simp only at e0 e1 e2 e3 e4 e5 e6 e7 e8 e9 e10 e11
          clear b7 d0 d1 d2 d3 d4 d5 d6 d7 d8 d9 d10 d11
          go_wp2_with fail
          refine (Q49.out _ w7).mono ?_
          rintro e w8 ⟨rfl, b8⟩
          rw [HSn.out]
          have HB8 := Lib.hid (HB7.out.trans (b8.mono HB7.out.size))
          clear b8
          go_wp2_with fail
          go_ret
          exact ⟨by first | (simp; done) | (simp; omega), HB8.out⟩
end Go.Proofs.YtddcfgbembjbhaaDoor
