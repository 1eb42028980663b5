/- The law RouteTells, walked. -/
import Derived.Test.YtddcfgbembjbhaaDoorRoute8
namespace Go.Proofs.YtddcfgbembjbhaaDoor
open Go.RowKit
set_option linter.unusedVariables false
set_option linter.unusedSimpArgs false
theorem IntsAt.more {w : World} {B B' n : Nat} {A : Option Addr} {xs : List Int} (h : IntsAt w B A n xs) (hB : B ≤ B') : IntsAt w B' A n xs := ⟨h.1, fun hn => by
  obtain ⟨b, e, hb, hc⟩ := h.2 hn
  exact ⟨b, e, by omega, hc⟩⟩
set_option maxRecDepth 100000 in
set_option maxHeartbeats 4000000 in
theorem walkRouteTells (w : World) (hw : 0 < w.heap.size) (ht : Four w) (P : PlanV) (hPo : P.Ok) (A : Option Addr) (n c : Nat) (l : List UInt8) (hr : BytesAt w w.heap.size A n l) (hc : n ≤ c) (hn : c ≤ 140737488351232)
    (s : Int) (hs : -9223372036854775808 ≤ s ∧ s ≤ 9223372036854775807) (T : Int) (hT : 0 ≤ T ∧ T ≤ 18446744073709551615) :
    Calls Tryd.prog 17 #[P.val, .slice A n c, .int .i64 s, .int .u64 T] w fun e w' => e = .returned (.bool true) ∧ Below w.heap.size w w' := by
  obtain ⟨T, rfl⟩ := Int.eq_ofNat_of_zero_le hT.1
  have hT' : T < 18446744073709551616 := by omega
  have hlen := order_len P.names (P.cand s l)
  have hcl : (P.cand s l).length = 5 := rfl
  rw [hcl] at hlen
  have hP := PlanAt.new w P
  have b1 := (Below.refl w.heap.size w).alloc (Nat.le_refl _) (.cells P.cells.toArray 39)
  have hg1 : w.heap.size < (w.alloc (.cells P.cells.toArray 39)).heap.size := by simp
  obtain ⟨p0, p1, p2, p3, p4, p5, p6, p7, p8, p9, pA, pn, pc, cA, cn, cc⟩ := P
  simp only [PlanV.val, PlanV.cells] at hP b1 hg1 ⊢
  go_enter Tryd.func17, Tryd.ntmps17
  go_wp2_with fail
  generalize w.alloc (.cells #[.int .i64 p0, .int .i64 p1, .int .i64 p2, .int .i64 p3, .int .i64 p4, .int .i64 p5, .int .i64 p6, .int .i64 p7, .int .u64 p8, .int .u64 p9, .slice pA pn pc, .slice cA cn cc] 39) = w1 at *
  refine (head21 w1 (by omega) (ht.below b1 hw)).mono ?_
  rintro e w2 ⟨rfl, b2⟩
  have hP2 := hP.below b2 hg1
  have b3 := b1.trans (b2.mono b1.size)
  have hs2 := b2.size
  clear hP b2
  go_wp2_with fail
  have hr2 := hr.below b3
  have ht2 := ht.below b3 hw
  have HB3 := Lib.hid b3
  have hgw : w.heap.size < w2.heap.size := by omega
  have hle : w.heap.size ≤ w2.heap.size := b3.size
  have HST : Hid (PlanIn w.heap.size ⟨p0, p1, p2, p3, p4, p5, p6, p7, p8, p9, pA, pn, pc, cA, cn, cc⟩ w2 w2.drew) := Lib.hid (PlanIn.start hP2)
  have q45 : ∀ W, PlanIn w.heap.size ⟨p0, p1, p2, p3, p4, p5, p6, p7, p8, p9, pA, pn, pc, cA, cn, cc⟩ w2 W → Calls Tryd.prog 45 #[.agg #[.int .i64 p0, .int .i64 p1, .int .i64 p2, .int .i64 p3, .int .i64 p4, .int .i64 p5, .int .i64 p6, .int .i64 p7, .int .u64 p8, .int .u64 p9, .slice pA pn pc, .slice cA cn cc], .slice A n c, .int .i64 s] W (Ordered W (orderL (PlanV.names ⟨p0, p1, p2, p3, p4, p5, p6, p7, p8, p9, pA, pn, pc, cA, cn, cc⟩) (PlanV.cand ⟨p0, p1, p2, p3, p4, p5, p6, p7, p8, p9, pA, pn, pc, cA, cn, cc⟩ s l))) :=
    fun W h => routeOrder ⟨p0, p1, p2, p3, p4, p5, p6, p7, p8, p9, pA, pn, pc, cA, cn, cc⟩ A n c l s W (by have := h.2.size; omega) (ht2.below h.2 (by omega)) (((hr2.more hle).below h.2).more h.2.size) (by omega)
  have q46 : ∀ W, PlanIn w.heap.size ⟨p0, p1, p2, p3, p4, p5, p6, p7, p8, p9, pA, pn, pc, cA, cn, cc⟩ w2 W → Calls Tryd.prog 46 #[.agg #[.int .i64 p0, .int .i64 p1, .int .i64 p2, .int .i64 p3, .int .i64 p4, .int .i64 p5, .int .i64 p6, .int .i64 p7, .int .u64 p8, .int .u64 p9, .slice pA pn pc, .slice cA cn cc], .slice A n c, .int .i64 s] W (Ordered W (orderL (PlanV.names ⟨p0, p1, p2, p3, p4, p5, p6, p7, p8, p9, pA, pn, pc, cA, cn, cc⟩) (PlanV.cand ⟨p0, p1, p2, p3, p4, p5, p6, p7, p8, p9, pA, pn, pc, cA, cn, cc⟩ s l))) :=
    fun W h => refOrder ⟨p0, p1, p2, p3, p4, p5, p6, p7, p8, p9, pA, pn, pc, cA, cn, cc⟩ A n c l s W (by have := h.2.size; omega) (((hr2.more hle).below h.2).more h.2.size) (by omega)
  have q47 : ∀ W, PlanIn w.heap.size ⟨p0, p1, p2, p3, p4, p5, p6, p7, p8, p9, pA, pn, pc, cA, cn, cc⟩ w2 W → Calls Tryd.prog 47 #[.agg #[.int .i64 p0, .int .i64 p1, .int .i64 p2, .int .i64 p3, .int .i64 p4, .int .i64 p5, .int .i64 p6, .int .i64 p7, .int .u64 p8, .int .u64 p9, .slice pA pn pc, .slice cA cn cc], .slice A n c, .int .i64 s, .int .u64 (T : Int)] W fun e w' => e = .returned (.int .i64 (pickL (free T) (PlanV.names ⟨p0, p1, p2, p3, p4, p5, p6, p7, p8, p9, pA, pn, pc, cA, cn, cc⟩) (PlanV.cand ⟨p0, p1, p2, p3, p4, p5, p6, p7, p8, p9, pA, pn, pc, cA, cn, cc⟩ s l))) ∧ Below W.heap.size W w' :=
    fun W h => routePick ⟨p0, p1, p2, p3, p4, p5, p6, p7, p8, p9, pA, pn, pc, cA, cn, cc⟩ A n c l s T hT' W (by have := h.2.size; omega) (ht2.below h.2 (by omega)) (((hr2.more hle).below h.2).more h.2.size) (by omega)
  have q48 : ∀ W, PlanIn w.heap.size ⟨p0, p1, p2, p3, p4, p5, p6, p7, p8, p9, pA, pn, pc, cA, cn, cc⟩ w2 W → Calls Tryd.prog 48 #[.agg #[.int .i64 p0, .int .i64 p1, .int .i64 p2, .int .i64 p3, .int .i64 p4, .int .i64 p5, .int .i64 p6, .int .i64 p7, .int .u64 p8, .int .u64 p9, .slice pA pn pc, .slice cA cn cc], .slice A n c, .int .i64 s, .int .u64 (T : Int)] W fun e w' => e = .returned (.int .i64 (pickL (free T) (PlanV.names ⟨p0, p1, p2, p3, p4, p5, p6, p7, p8, p9, pA, pn, pc, cA, cn, cc⟩) (PlanV.cand ⟨p0, p1, p2, p3, p4, p5, p6, p7, p8, p9, pA, pn, pc, cA, cn, cc⟩ s l))) ∧ Below W.heap.size W w' :=
    fun W h => refPick ⟨p0, p1, p2, p3, p4, p5, p6, p7, p8, p9, pA, pn, pc, cA, cn, cc⟩ A n c l s T hT' W (by have := h.2.size; omega) (((hr2.more hle).below h.2).more h.2.size) (by omega)
  have Q45 := Lib.hid q45
  have Q46 := Lib.hid q46
  have Q47 := Lib.hid q47
  have Q48 := Lib.hid q48
  clear q45 q46 q47 q48 hr2 ht2 hr ht b1 b3 hP2
  generalize pickL (free T) (PlanV.names ⟨p0, p1, p2, p3, p4, p5, p6, p7, p8, p9, pA, pn, pc, cA, cn, cc⟩) (PlanV.cand ⟨p0, p1, p2, p3, p4, p5, p6, p7, p8, p9, pA, pn, pc, cA, cn, cc⟩ s l) = PK at *
  generalize orderL (PlanV.names ⟨p0, p1, p2, p3, p4, p5, p6, p7, p8, p9, pA, pn, pc, cA, cn, cc⟩) (PlanV.cand ⟨p0, p1, p2, p3, p4, p5, p6, p7, p8, p9, pA, pn, pc, cA, cn, cc⟩ s l) = OUT at *
  go_region_held3 (fun w' => (w'.cell? ⟨w.heap.size, 0, none⟩ = some (.int .i64 p0) ∧ w'.cell? ⟨w.heap.size, 1, none⟩ = some (.int .i64 p1) ∧ w'.cell? ⟨w.heap.size, 2, none⟩ = some (.int .i64 p2) ∧ w'.cell? ⟨w.heap.size, 3, none⟩ = some (.int .i64 p3) ∧ w'.cell? ⟨w.heap.size, 4, none⟩ = some (.int .i64 p4) ∧ w'.cell? ⟨w.heap.size, 5, none⟩ = some (.int .i64 p5) ∧ w'.cell? ⟨w.heap.size, 6, none⟩ = some (.int .i64 p6) ∧ w'.cell? ⟨w.heap.size, 7, none⟩ = some (.int .i64 p7) ∧ w'.cell? ⟨w.heap.size, 8, none⟩ = some (.int .u64 p8) ∧ w'.cell? ⟨w.heap.size, 9, none⟩ = some (.int .u64 p9) ∧ w'.cell? ⟨w.heap.size, 10, none⟩ = some (.slice pA pn pc) ∧ w'.cell? ⟨w.heap.size, 11, none⟩ = some (.slice cA cn cc)) ∧ Below w2.heap.size w2 w')
    ((first | exact HST.out | assumption | exact PlanIn.step (P := ⟨p0, p1, p2, p3, p4, p5, p6, p7, p8, p9, pA, pn, pc, cA, cn, cc⟩) (by assumption) (by assumption) hgw))
    ((first
      | (go_at_call 45; refine (Q45.out _ (by assumption)).mono ?_; clear Q45; rintro e w5 ⟨A1, n1, c1, rfl, ho1, hb5⟩; have I1 := Lib.hid ho1.ints; have hl1 := ho1.len; clear ho1)
      | (go_at_call 46; refine (Q46.out _ (by assumption)).mono ?_; clear Q46; rintro e w6 ⟨A2, n2, c2, rfl, ho2, hb6⟩; have I2 := Lib.hid ho2.ints; have hb6' := Below.mono hb6 (Nat.le_refl _); have J1 := Lib.hid ((I1.out.below hb6').more hb6'.size); clear ho2)
      | (go_at_call 44; refine (alike A1 n1 c1 A2 n2 c2 OUT w6 J1.out I2.out (by omega)).mono ?_; rintro e w7 ⟨rfl, hb7⟩)
      | (go_at_call 47; refine (Q47.out _ (by assumption)).mono ?_; clear Q47; rintro e w8 ⟨rfl, hb8⟩)
      | (go_at_call 48; refine (Q48.out _ (by assumption)).mono ?_; clear Q48; rintro e w9 ⟨rfl, hb9⟩)))
  have hh : PlanIn w.heap.size ⟨p0, p1, p2, p3, p4, p5, p6, p7, p8, p9, pA, pn, pc, cA, cn, cc⟩ w2 w9 := by assumption
  go_wp2
  go_ret
  exact ⟨by simp, hh.close HB3.out hle⟩
end Go.Proofs.YtddcfgbembjbhaaDoor
