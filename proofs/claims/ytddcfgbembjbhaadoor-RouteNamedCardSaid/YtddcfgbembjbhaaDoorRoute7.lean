/- Routes: the document's Pick; lists alike; the live question: walked. -/
import Derived.Test.YtddcfgbembjbhaaDoorRoute5
import Derived.Test.YtddcfgbembjbhaaDoorRoute6
namespace Go.Proofs.YtddcfgbembjbhaaDoor
open Go.RowKit
set_option linter.unusedVariables false
set_option linter.unusedSimpArgs false
theorem fold_named (f : Int → Bool) : ∀ (c out : List Int), (∀ x ∈ out, f x = true) → ∀ x ∈ c.foldl (once f) out, f x = true
  | [], out, h, x, hx => h x hx
  | y :: c, out, h, x, hx => by
    rw [List.foldl_cons] at hx
    refine fold_named f c (once f out y) (fun z hz => ?_) x hx
    unfold once at hz
    split at hz
    · rename_i hc
      rw [Bool.and_eq_true] at hc
      rcases List.mem_append.1 hz with hz | hz
      · exact h z hz
      · simp at hz; rw [hz]; exact hc.1
    · exact h z hz
theorem order_named (f : Int → Bool) (c : List Int) : ∀ x ∈ orderL f c, f x = true := fold_named f c [] (fun x hx => by cases hx)
theorem pick_order (g f : Int → Bool) (c : List Int) : pickL g f c = ((orderL f c).find? g).getD (-1) := by unfold pickL; rw [order_find]
theorem order_len (f : Int → Bool) (c : List Int) : (orderL f c).length ≤ c.length := by
  have := upto_len f c c.length
  rwa [upto_all f c c.length (Nat.le_refl _)] at this
theorem names_nonneg {P : PlanV} {x : Int} (h : P.names x = true) : 0 ≤ x := by
  unfold PlanV.names named at h
  rw [Bool.and_eq_true] at h
  exact of_decide_eq_true h.1
theorem find_take (g : Int → Bool) (xs : List Int) (k : Nat) (h : k < xs.length) : (xs.take (k + 1)).find? g = ((xs.take k).find? g).or (if g (xs.getD k 0) then some (xs.getD k 0) else none) := by
  rw [List.take_succ_eq_append_getElem h, List.find?_append, List.getD_eq_getElem?_getD, List.getElem?_eq_getElem h]
  simp [List.find?_cons]
  split <;> simp_all
/-- What '(tried >> m) & 1 == 0' says. -/
theorem free_shr (T m : Nat) (hT : T < 18446744073709551616) (hm : m ≤ 63) : ∃ B : Int, bits .and .u64 ((T : Int) / 2 ^ m) 1 = B ∧ decide (B = 0) = free (T : Int) (m : Int) := by
  refine ⟨_, and_one_u64 _ ?_ ?_, ?_⟩
  · exact Int.ediv_nonneg (by omega) (Int.pow_nonneg (by omega))
  · have h2 : ((T : Int) / 2 ^ m) = ((T / 2 ^ m : Nat) : Int) := by simp
    rw [h2]
    have := Nat.div_le_self T (2 ^ m)
    generalize T / 2 ^ m = q at *
    omega
  · unfold free
    have h1 : decide ((63 : Int) < (m : Int)) = false := by simp; omega
    rw [h1, Bool.false_or, Int.toNat_natCast]
set_option maxRecDepth 100000 in
set_option maxHeartbeats 4000000 in
theorem refPick (P : PlanV) (A : Option Addr) (n c : Nat) (l : List UInt8) (s : Int) (T : Nat) (hT : T < 18446744073709551616) (w : World) (hw : 0 < w.heap.size) (hr : BytesAt w w.heap.size A n l) (hn : n ≤ 140737488351232) :
    Calls Tryd.prog 48 #[P.val, .slice A n c, .int .i64 s, .int .u64 (T : Int)] w fun e w' => e = .returned (.int .i64 (pickL (free T) P.names (P.cand s l))) ∧ Below w.heap.size w w' := by
  have b1 := (Below.refl w.heap.size w).alloc (Nat.le_refl _) (.cells P.cells.toArray 39)
  have hs1 : w.heap.size < (w.alloc (.cells P.cells.toArray 39)).heap.size := by simp
  have hr1 := (hr.below b1).more (Nat.le_of_lt hs1)
  have Q46 := Lib.hid (refOrder P A n c l s (w.alloc (.cells P.cells.toArray 39)) (by omega) hr1 hn)
  have HN := Lib.hid (order_named P.names (P.cand s l))
  have hlen := order_len P.names (P.cand s l)
  have hcl : (P.cand s l).length = 5 := rfl
  rw [hcl] at hlen
  have HNN : Hid (∀ x, P.names x = true → 0 ≤ x) := Lib.hid fun x h => names_nonneg h
  rw [pick_order]
  generalize orderL P.names (P.cand s l) = out at *
  generalize P.names = nm at *
  obtain ⟨p0, p1, p2, p3, p4, p5, p6, p7, p8, p9, pA, pn, pc, cA, cn, cc⟩ := P
  simp only [PlanV.val, PlanV.cells] at Q46 b1 hs1 hr1 ⊢
  have HB1 := Lib.hid b1
  clear b1 hr hr1 hcl
  go_enter Tryd.func48, Tryd.ntmps48
  go_wp2_with fail
  refine Q46.out.mono ?_
  rintro e w2 ⟨A2, n2, c2, rfl, ho, hb⟩
  have hon := ho.len
  have HO := Lib.hid ho.ints
  have HB2 := Lib.hid (HB1.out.trans (hb.mono (Nat.le_of_lt hs1)))
  clear ho hb Q46 HB1
  generalize w.alloc (.cells #[.int .i64 p0, .int .i64 p1, .int .i64 p2, .int .i64 p3, .int .i64 p4, .int .i64 p5, .int .i64 p6, .int .i64 p7, .int .u64 p8, .int .u64 p9, .slice pA pn pc, .slice cA cn cc] 39) = w1 at *
  clear hs1
  go_wp2
  go_loopw [10] (fun x10 wr => ∃ k : Nat, k ≤ n2 ∧ x10 = .int .i64 (k : Int) ∧ (out.take k).find? (free T) = none ∧ w2 = wr) (fun x10 _ => n2 - (intOf x10).toNat)
  case atStart => exact ⟨0, Nat.zero_le _, rfl, rfl, rfl⟩
  case round =>
    obtain ⟨k, hk, rfl, hno, rfl⟩ := hrel
    by_cases hlt : k < n2
    · obtain ⟨g, rfl, hg, hc⟩ := HO.out.2 (by omega)
      have f := hc k hlt
      have HF := Lib.hid (find_take (free T) out k (by omega))
      have hmem : out.getD k 0 ∈ out := by rw [List.getD_eq_getElem?_getD, List.getElem?_eq_getElem (by omega)]; exact List.getElem_mem _
      have hx0 := HNN.out _ (HN.out _ hmem)
      have HNO := Lib.hid hno
      clear hc hmem hno
      generalize out.getD k 0 = x at *
      have hres : free T x = true → (out.find? (free T)).getD (-1) = x := fun hf => by
        have h1 := HF.out
        rw [HNO.out, hf] at h1
        rw [← List.take_append_drop (k + 1) out, List.find?_append, h1]
        rfl
      have HRES := Lib.hid hres
      clear hres
      by_cases h63 : 63 < x
      · have HX := Lib.hid (HRES.out (free_great _ _ h63))
        go_wp2
        go_ret
        exact ⟨by rw [HX.out]; rfl, HB2.out⟩
      · obtain ⟨m, rfl⟩ := Int.eq_ofNat_of_zero_le hx0
        have hm : m ≤ 63 := by omega
        obtain ⟨B, q1, q3⟩ := free_shr T m hT hm
        have q1' : bits .and .u64 ((T : Int) / 2 ^ ((m : Int).toNat)) 1 = B := by rw [Int.toNat_natCast]; exact q1
        by_cases hB : B = 0
        · subst hB
          have HX := Lib.hid (HRES.out (by rw [← q3]; rfl))
          clear q3
          go_wp2
          go_ret
          exact ⟨by rw [HX.out]; rfl, HB2.out⟩
        · have HFF := Lib.hid (show free T m = false by rw [← q3]; exact decide_eq_false hB)
          clear q3
          go_wp2
          go_roundw
          case rel => exact ⟨k + 1, by omega, by go_num, by rw [HF.out, HNO.out, HFF.out]; rfl, by trivial⟩
          case measure => simp [intOf]; omega
    · obtain rfl : k = n2 := by omega
      rw [List.take_of_length_le (by omega)] at hno
      have HNO := Lib.hid hno
      clear hno
      go_wp2
      go_ret
      exact ⟨by rw [HNO.out]; rfl, HB2.out⟩
set_option maxRecDepth 100000 in
set_option maxHeartbeats 2000000 in
theorem alike (A1 : Option Addr) (n1 c1 : Nat) (A2 : Option Addr) (n2 c2 : Nat) (xs : List Int) (w : World) (h1 : IntsAt w w.heap.size A1 n1 xs) (h2 : IntsAt w w.heap.size A2 n2 xs) (hn : n1 ≤ 1000) :
    Calls Tryd.prog 44 #[.slice A1 n1 c1, .slice A2 n2 c2] w fun e w' => e = .returned (.bool true) ∧ Below w.heap.size w w' := by
  obtain rfl : n1 = n2 := h1.1.symm.trans h2.1
  have H1 := Lib.hid h1
  have H2 := Lib.hid h2
  clear h1 h2
  go_enter Tryd.func44, Tryd.ntmps44
  go_wp2
  go_loopw [5] (fun x5 wr => ∃ k : Nat, k ≤ n1 ∧ x5 = .int .i64 (k : Int) ∧ Below w.heap.size w wr) (fun x5 _ => n1 - (intOf x5).toNat)
  case atStart => exact ⟨0, Nat.zero_le _, rfl, Below.refl _ _⟩
  case round =>
    obtain ⟨k, hk, rfl, hb⟩ := hrel
    by_cases hlt : k < n1
    · obtain ⟨g1, rfl, hg1, hc1⟩ := H1.out.2 (by omega)
      obtain ⟨g2, rfl, hg2, hc2⟩ := H2.out.2 (by omega)
      have f1 := (hb.cell (p := ⟨g1, k, none⟩) hg1).trans (hc1 k hlt)
      have f2 := (hb.cell (p := ⟨g2, k, none⟩) hg2).trans (hc2 k hlt)
      have HB := Lib.hid hb
      clear hc1 hc2 hb
      generalize xs.getD k 0 = x at *
      go_wp2
      go_quiet (fail)
      go_wp2
      go_roundw
      case rel => exact ⟨k + 1, by omega, by go_num, below_draws HB.out _⟩
      case measure => simp [intOf]; omega
    · obtain rfl : k = n1 := by omega
      have HB := Lib.hid hb
      clear hb
      go_wp2
      go_ret
      exact ⟨by simp, HB.out⟩
end Go.Proofs.YtddcfgbembjbhaaDoor
