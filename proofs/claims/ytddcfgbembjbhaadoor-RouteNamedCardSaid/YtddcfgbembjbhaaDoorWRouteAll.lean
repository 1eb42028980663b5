/- The law RouteAll, walked. -/
import Derived.Test.YtddcfgbembjbhaaDoorRoute8
import Derived.Test.YtddcfgbembjbhaaDoorRouteMath2
namespace Go.Proofs.YtddcfgbembjbhaaDoor
open Go.RowKit
set_option linter.unusedVariables false
set_option linter.unusedSimpArgs false
theorem named_of {P : PlanV} {x : Int} (h : P.names x = true) : 0 ≤ x ∧ (x = P.target ∨ x = P.prev ∨ x = P.spill) := by
  unfold PlanV.names named at h
  rw [Bool.and_eq_true, Bool.or_eq_true, Bool.or_eq_true, Bool.and_eq_true] at h
  obtain ⟨h0, (h | h) | h⟩ := h
  · exact ⟨of_decide_eq_true h0, .inl (of_decide_eq_true h)⟩
  · exact ⟨of_decide_eq_true h0, .inr (.inl (of_decide_eq_true h.1))⟩
  · exact ⟨of_decide_eq_true h0, .inr (.inr (of_decide_eq_true h))⟩
set_option maxRecDepth 100000 in
set_option maxHeartbeats 4000000 in
theorem walkRouteAll (w : World) (hw : 0 < w.heap.size) (ht : Four w) (P : PlanV) (hPo : P.Ok) (A : Option Addr) (n c : Nat) (l : List UInt8) (hr : BytesAt w w.heap.size A n l) (hc : n ≤ c) (hn : c ≤ 140737488351232)
    (s : Int) (hs : -9223372036854775808 ≤ s ∧ s ≤ 9223372036854775807) :
    Calls Tryd.prog 19 #[P.val, .slice A n c, .int .i64 s] w fun e w' => e = .returned (.bool true) ∧ Below w.heap.size w w' := by
  have hP := PlanAt.new w P
  have b1 := (Below.refl w.heap.size w).alloc (Nat.le_refl _) (.cells P.cells.toArray 39)
  have hg1 : w.heap.size < (w.alloc (.cells P.cells.toArray 39)).heap.size := by simp
  have hlen := order_len P.names (P.cand s l)
  have hcl : (P.cand s l).length = 5 := rfl
  rw [hcl] at hlen
  have HLEN := Lib.hid hlen
  have HND := Lib.hid (order_nodup P.names (P.cand s l))
  have HBD : Hid (P.target < 16 → P.prev < 16 → P.spill < 16 → ∀ x ∈ orderL P.names (P.cand s l), 0 ≤ x ∧ x < 16) := Lib.hid fun h1 h2 h3 x hx => by
    have h := named_of (order_named _ _ x hx)
    rcases h.2 with h' | h' | h' <;> exact ⟨h.1, by omega⟩
  obtain ⟨p0, p1, p2, p3, p4, p5, p6, p7, p8, p9, pA, pn, pc, cA, cn, cc⟩ := P
  simp only [PlanV.val, PlanV.cells] at hP b1 hg1 HBD ⊢
  clear hlen hcl
  go_enter Tryd.func19, Tryd.ntmps19
  go_wp2_with fail
  generalize w.alloc (.cells #[.int .i64 p0, .int .i64 p1, .int .i64 p2, .int .i64 p3, .int .i64 p4, .int .i64 p5, .int .i64 p6, .int .i64 p7, .int .u64 p8, .int .u64 p9, .slice pA pn pc, .slice cA cn cc] 39) = w1 at *
  refine (head21 w1 (by omega) (ht.below b1 hw)).mono ?_
  rintro e w2 ⟨rfl, b2⟩
  have hP2 := hP.below b2 hg1
  have b3 := b1.trans (b2.mono b1.size)
  have hs2 := b2.size
  have hr2 := hr.below b3
  have ht2 := ht.below b3 hw
  have HB3 := Lib.hid b3
  have hgw : w.heap.size < w2.heap.size := by omega
  have hle : w.heap.size ≤ w2.heap.size := b3.size
  have HP2 := Lib.hid hP2
  obtain ⟨c0, c1, c2, c3, c4, c5, c6, c7, c8, c9, c10, c11⟩ := hP2
  simp only at c0 c1 c2 c3 c4 c5 c6 c7 c8 c9 c10 c11
  have HR2 := Lib.hid hr2
  have HT2 := Lib.hid ht2
  clear hP b2 b1 b3 hr ht hr2 ht2
  by_cases ht0 : 16 ≤ p1
  · go_wp2_with fail
    go_ret
    exact ⟨by simp, HB3.out⟩
  by_cases hp0 : 16 ≤ p2
  · go_wp2_with fail
    go_ret
    exact ⟨by simp, HB3.out⟩
  by_cases hs0 : 16 ≤ p3
  · go_wp2_with fail
    go_ret
    exact ⟨by simp, HB3.out⟩
  have HBND := Lib.hid (HBD.out (by omega) (by omega) (by omega))
  clear HBD
  go_wp2_with fail
  refine (routeOrder ⟨p0, p1, p2, p3, p4, p5, p6, p7, p8, p9, pA, pn, pc, cA, cn, cc⟩ A n c l s w2 (by omega) HT2.out (HR2.out.more hle) (by omega)).mono ?_
  rintro e w3 ⟨A3, n3, c3', rfl, ho3, hb3⟩
  have HPK : Hid (∀ (T : Nat) (W : World), T < 18446744073709551616 → Below w2.heap.size w2 W → Calls Tryd.prog 47 #[.agg #[.int .i64 p0, .int .i64 p1, .int .i64 p2, .int .i64 p3, .int .i64 p4, .int .i64 p5, .int .i64 p6, .int .i64 p7, .int .u64 p8, .int .u64 p9, .slice pA pn pc, .slice cA cn cc], .slice A n c, .int .i64 s, .int .u64 (T : Int)] W fun e w' => e = .returned (.int .i64 (((orderL (PlanV.names ⟨p0, p1, p2, p3, p4, p5, p6, p7, p8, p9, pA, pn, pc, cA, cn, cc⟩) (PlanV.cand ⟨p0, p1, p2, p3, p4, p5, p6, p7, p8, p9, pA, pn, pc, cA, cn, cc⟩ s l)).find? (free T)).getD (-1))) ∧ Below W.heap.size W w') := Lib.hid fun T W hT hb => by
    rw [← pick_order]
    exact routePick ⟨p0, p1, p2, p3, p4, p5, p6, p7, p8, p9, pA, pn, pc, cA, cn, cc⟩ A n c l s T hT W (by have := hb.size; omega) (HT2.out.below hb (by omega)) (((HR2.out.more hle).below hb).more hb.size) (by omega)
  have H3 := Lib.hid ho3.ints
  have hn3 := ho3.len
  have HB23 := Lib.hid hb3
  have hz3 := hb3.size
  clear ho3 hb3 c0 c1 c2 c3 c4 c5 c6 c7 c8 c9 c10 c11
  generalize orderL (PlanV.names ⟨p0, p1, p2, p3, p4, p5, p6, p7, p8, p9, pA, pn, pc, cA, cn, cc⟩) (PlanV.cand ⟨p0, p1, p2, p3, p4, p5, p6, p7, p8, p9, pA, pn, pc, cA, cn, cc⟩ s l) = out at *
  have hn5 : n3 ≤ 5 := by have := HLEN.out; omega
  go_wp2_with fail
  go_loopw [9, 10] (fun x9 x10 wr => ∃ (i T : Nat), i ≤ n3 ∧ x9 = .int .u64 (T : Int) ∧ x10 = .int .i64 (i : Int) ∧ Tries T out i ∧ Below w3.heap.size w3 wr) (fun _ x10 _ => n3 - (intOf x10).toNat)
  case atStart => exact ⟨0, 0, Nat.zero_le _, rfl, rfl, tries_zero _, Below.refl _ _⟩
  case round =>
    obtain ⟨i, T, hi, rfl, rfl, htr, hb⟩ := hrel
    have hb2 := HB23.out.trans (hb.mono hz3)
    obtain ⟨c0, c1, c2, c3, c4, c5, c6, c7, c8, c9, c10, c11⟩ := HP2.out.below hb2 hgw
    simp only at c0 c1 c2 c3 c4 c5 c6 c7 c8 c9 c10 c11
    by_cases hlt : i < n3
    · obtain ⟨g3, rfl, hg3, hc3⟩ := H3.out.2 (by omega)
      have hxi : out[i]? = some (out.getD i 0) := by rw [List.getD_eq_getElem?_getD, List.getElem?_eq_getElem (by omega)]; rfl
      have hbx := HBND.out (out.getD i 0) (by rw [List.getD_eq_getElem?_getD, List.getElem?_eq_getElem (by omega)]; exact List.getElem_mem _)
      have hfx := hc3 i hlt
      obtain ⟨m, hm⟩ := Int.eq_ofNat_of_zero_le hbx.1
      rw [hm] at hxi hbx hfx
      have hm63 : m ≤ 63 := by omega
      have hm16 : m < 16 := by omega
      have Q := Lib.hid (HPK.out T wr htr.1 hb2)
      rw [find_next htr HND.out HBND.out _ hxi] at Q
      have HNX := Lib.hid (tries_next htr hm63 hxi)
      have hor := or_bit T m htr.1 hm63
      have hsh := wrap_two_pow m hm63
      generalize hM : 2 ^ m = M at hor HNX
      have hsh2 : IntKind.u64.wrap ((2 : Int) ^ m) = (M : Int) := by rw [hsh, hM]
      have hsh3 : IntKind.u64.wrap (1 * 2 ^ ((m : Int).toNat)) = (M : Int) := by rw [Int.toNat_natCast, Int.one_mul]; exact hsh2
      have HB := Lib.hid hb
      generalize T ||| M = T' at *
      have hTT : T < 18446744073709551616 := htr.1
      clear hxi htr hb hb2 hc3 hm hsh hM hbx
      go_wp2_with fail
      refine Q.out.mono ?_
      rintro e w5 ⟨rfl, hb5⟩
      have f5 : w5.cell? ⟨g3, i, none⟩ = some (.int .i64 (m : Int)) := (((HB.out.trans (hb5.mono HB.out.size))).cell (p := ⟨g3, i, none⟩) hg3).trans hfx
      have HB5 := Lib.hid (HB.out.trans (hb5.mono HB.out.size))
      clear hb5 hfx c0 c1 c2 c3 c4 c5 c6 c7 c8 c9 c10 c11
      go_wp2_with fail
      go_roundw
      case rel => exact ⟨i + 1, T', by omega, rfl, by go_num, HNX.out, HB5.out⟩
      case measure => simp [intOf]; omega
    · obtain rfl : i = n3 := by omega
      have Q := Lib.hid (HPK.out T wr htr.1 hb2)
      rw [find_end htr HBND.out (by omega)] at Q
      have HB := Lib.hid (HB3.out.trans (hb2.mono hle))
      clear htr hb hb2
      go_wp2_with fail
      refine Q.out.mono ?_
      rintro e w5 ⟨rfl, hb5⟩
      have HB5 := Lib.hid (HB.out.trans (hb5.mono HB.out.size))
      clear hb5
      go_wp2_with fail
      go_ret
      exact ⟨by simp, HB5.out⟩
end Go.Proofs.YtddcfgbembjbhaaDoor
