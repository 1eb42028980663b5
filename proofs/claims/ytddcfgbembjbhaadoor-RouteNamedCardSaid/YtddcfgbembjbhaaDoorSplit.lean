/- The split and the document's, walked; the live question of layer 19. -/
import Derived.Test.YtddcfgbembjbhaaDoorCrc
import Derived.Test.YtddcfgbembjbhaaDoorMem2
import Derived.Deep.QuietTactic
import Derived.BigQuiet
import Derived.Deep.RegionWith
import Derived.Deep.RegionHeld3
namespace Go.Proofs.YtddcfgbembjbhaaDoor
open Go.RowKit
set_option linter.unusedVariables false

/-- A plan's cells. -/
structure PlanV where
  epoch : Int
  target : Int
  prev : Int
  spill : Int
  percent : Int
  stamp : Int
  since : Int
  ramped : Int
  up : Int
  sup : Int
  penA : Option Addr
  penN : Nat
  penC : Nat
  chA : Option Addr
  chN : Nat
  chC : Nat
def PlanV.cells (p : PlanV) : List Value := [.int .i64 p.epoch, .int .i64 p.target, .int .i64 p.prev, .int .i64 p.spill, .int .i64 p.percent, .int .i64 p.stamp, .int .i64 p.since, .int .i64 p.ramped, .int .u64 p.up, .int .u64 p.sup, .slice p.penA p.penN p.penC, .slice p.chA p.chN p.chC]
def PlanV.val (p : PlanV) : Value := .agg p.cells.toArray

/-- A session's bucket. -/
def bucketOf (l : List UInt8) : Nat := (Crc.add 0 l).toNat % 100
theorem bucketOf_lt (l : List UInt8) : bucketOf l < 100 := Nat.mod_lt _ (by omega)
/-- Where it goes. -/
def splitOf (t p pc : Int) (k : Nat) : Int := if t < 0 then -1 else if p < 0 then t else if (k : Int) < pc then t else p

set_option maxHeartbeats 400000 in
theorem bucket (A : Option Addr) (n c : Nat) (l : List UInt8) (B : Nat) (w : World) (hr : BytesAt w B A n l) (hn : n ≤ 9223372036854775807) (ht : Four w) :
    Calls Tryd.prog 35 #[.slice A n c] w fun e w' => e = .returned (.int .i64 (bucketOf l : Int)) ∧ w = w' := by
  have HB := Lib.hid (show bucketOf l = (Crc.add 0 l).toNat % 100 from rfl)
  go_enter Tryd.func35, Tryd.ntmps35
  go_wp2_with fail
  refine (crcSum A n c l B _ hr hn ht).mono ?_
  rintro e w' ⟨rfl, rfl⟩
  generalize Crc.add 0 l = S at *
  have hS := S.isLt
  go_wp2
  go_ret
  exact ⟨by rw [HB.out]; exact ret_int (by omega), rfl⟩
set_option maxHeartbeats 400000 in
theorem refBucket (A : Option Addr) (n c : Nat) (l : List UInt8) (B : Nat) (w : World) (hr : BytesAt w B A n l) (hn : n ≤ 9223372036854775807) :
    Calls Tryd.prog 36 #[.slice A n c] w fun e w' => e = .returned (.int .i64 (bucketOf l : Int)) ∧ w = w' := by
  have HB := Lib.hid (show bucketOf l = (Crc.add 0 l).toNat % 100 from rfl)
  go_enter Tryd.func36, Tryd.ntmps36
  go_wp2_with fail
  refine (refSum A n c l B _ hr hn).mono ?_
  rintro e w' ⟨rfl, rfl⟩
  generalize Crc.add 0 l = S at *
  have hS := S.isLt
  go_wp2
  go_ret
  exact ⟨by rw [HB.out]; exact ret_int (by omega), rfl⟩

set_option maxHeartbeats 1000000 in
theorem ofSplit (P : PlanV) (A : Option Addr) (n c : Nat) (l : List UInt8) (w : World) (hr : BytesAt w w.heap.size A n l) (hn : n ≤ 9223372036854775807) (ht : Four w) (hw : 0 < w.heap.size) :
    Calls Tryd.prog 37 #[P.val, .slice A n c] w fun e w' => e = .returned (.int .i64 (splitOf P.target P.prev P.percent (bucketOf l))) ∧ Below w.heap.size w w' := by
  obtain ⟨p0, p1, p2, p3, p4, p5, p6, p7, p8, p9, pA, pn, pc, cA, cn, cc⟩ := P
  simp only [PlanV.val, PlanV.cells]
  have b1 := (Below.refl w.heap.size w).alloc (Nat.le_refl _) (.cells #[.int .i64 p0, .int .i64 p1, .int .i64 p2, .int .i64 p3, .int .i64 p4, .int .i64 p5, .int .i64 p6, .int .i64 p7, .int .u64 p8, .int .u64 p9, .slice pA pn pc, .slice cA cn cc] 39)
  have b2 := b1.alloc (by simp) (.cells #[.int .i64 p1, .int .i64 p2] 87)
  have q : ∀ N, Calls Tryd.prog 35 #[.slice A n c] (((w.alloc (.cells #[.int .i64 p0, .int .i64 p1, .int .i64 p2, .int .i64 p3, .int .i64 p4, .int .i64 p5, .int .i64 p6, .int .i64 p7, .int .u64 p8, .int .u64 p9, .slice pA pn pc, .slice cA cn cc] 39)).alloc (.cells #[.int .i64 p1, .int .i64 p2] 87)).drewN N)
      fun e w'' => e = .returned (.int .i64 (bucketOf l : Int)) ∧ ∃ m, w'' = ((w.alloc (.cells #[.int .i64 p0, .int .i64 p1, .int .i64 p2, .int .i64 p3, .int .i64 p4, .int .i64 p5, .int .i64 p6, .int .i64 p7, .int .u64 p8, .int .u64 p9, .slice pA pn pc, .slice cA cn cc] 39)).alloc (.cells #[.int .i64 p1, .int .i64 p2] 87)).drewN m :=
    fun N => (bucket A n c l w.heap.size _ (hr.below (below_draws b2 N)) hn (ht.below (below_draws b2 N) hw)).mono fun e w' ⟨he, hw'⟩ => ⟨he, N, hw'.symm⟩
  have Q := Lib.hid q
  clear q
  have hfin : ∀ N, Below w.heap.size w (((w.alloc (.cells #[.int .i64 p0, .int .i64 p1, .int .i64 p2, .int .i64 p3, .int .i64 p4, .int .i64 p5, .int .i64 p6, .int .i64 p7, .int .u64 p8, .int .u64 p9, .slice pA pn pc, .slice cA cn cc] 39)).alloc (.cells #[.int .i64 p1, .int .i64 p2] 87)).drewN N) :=
    fun N => ⟨b2.os, b2.tape, b2.output, b2.size, b2.block⟩
  have HF := Lib.hid hfin
  clear hfin b1 b2 hr ht
  generalize bucketOf l = k at *
  by_cases h2 : p2 < 0
  · have hd : decide (0 ≤ p2) = false := by simp; omega
    by_cases h1 : p1 < 0
    · have HR := Lib.hid (show splitOf p1 p2 p4 k = -1 by unfold splitOf; rw [if_pos h1])
      go_enter Tryd.func37, Tryd.ntmps37
      go_wp2
      go_quiet (fail)
      go_wp2
      go_ret
      exact ⟨by rw [HR.out]; rfl, HF.out _⟩
    · have HR := Lib.hid (show splitOf p1 p2 p4 k = p1 by unfold splitOf; rw [if_neg h1, if_pos h2])
      go_enter Tryd.func37, Tryd.ntmps37
      go_wp2
      go_quiet (fail)
      go_wp2
      go_ret
      exact ⟨by rw [HR.out]; rfl, HF.out _⟩
  · have hd : decide (0 ≤ p2) = true := by simp; omega
    by_cases h3 : (k : Int) < p4
    · have hd3 : decide (p4 ≤ (k : Int)) = false := by simp; omega
      by_cases h1 : p1 < 0
      · have HR := Lib.hid (show splitOf p1 p2 p4 k = -1 by unfold splitOf; rw [if_pos h1])
        go_enter Tryd.func37, Tryd.ntmps37
        go_wp2
        go_quiet ((go_at_call 35; exact Q.out _))
        go_wp2
        go_ret
        exact ⟨by rw [HR.out]; rfl, HF.out _⟩
      · have HR := Lib.hid (show splitOf p1 p2 p4 k = p1 by unfold splitOf; rw [if_neg h1, if_neg h2, if_pos h3])
        go_enter Tryd.func37, Tryd.ntmps37
        go_wp2
        go_quiet ((go_at_call 35; exact Q.out _))
        go_wp2
        go_ret
        exact ⟨by rw [HR.out]; rfl, HF.out _⟩
    · have hd3 : decide (p4 ≤ (k : Int)) = true := by simp; omega
      by_cases h1 : p1 < 0
      · have HR := Lib.hid (show splitOf p1 p2 p4 k = -1 by unfold splitOf; rw [if_pos h1])
        go_enter Tryd.func37, Tryd.ntmps37
        go_wp2
        go_quiet ((go_at_call 35; exact Q.out _))
        go_wp2
        go_ret
        exact ⟨by rw [HR.out]; rfl, HF.out _⟩
      · have HR := Lib.hid (show splitOf p1 p2 p4 k = p2 by unfold splitOf; rw [if_neg h1, if_neg h2, if_neg h3])
        go_enter Tryd.func37, Tryd.ntmps37
        go_wp2
        go_quiet ((go_at_call 35; exact Q.out _))
        go_wp2
        go_ret
        exact ⟨by rw [HR.out]; rfl, HF.out _⟩

set_option maxHeartbeats 1000000 in
theorem refSplit (P : PlanV) (A : Option Addr) (n c : Nat) (l : List UInt8) (w : World) (hr : BytesAt w w.heap.size A n l) (hn : n ≤ 9223372036854775807) :
    Calls Tryd.prog 38 #[P.val, .slice A n c] w fun e w' => e = .returned (.int .i64 (splitOf P.target P.prev P.percent (bucketOf l))) ∧ Below w.heap.size w w' := by
  obtain ⟨p0, p1, p2, p3, p4, p5, p6, p7, p8, p9, pA, pn, pc, cA, cn, cc⟩ := P
  simp only [PlanV.val, PlanV.cells]
  have b1 := (Below.refl w.heap.size w).alloc (Nat.le_refl _) (.cells #[.int .i64 p0, .int .i64 p1, .int .i64 p2, .int .i64 p3, .int .i64 p4, .int .i64 p5, .int .i64 p6, .int .i64 p7, .int .u64 p8, .int .u64 p9, .slice pA pn pc, .slice cA cn cc] 39)
  have q : ∀ N, Calls Tryd.prog 36 #[.slice A n c] ((w.alloc (.cells #[.int .i64 p0, .int .i64 p1, .int .i64 p2, .int .i64 p3, .int .i64 p4, .int .i64 p5, .int .i64 p6, .int .i64 p7, .int .u64 p8, .int .u64 p9, .slice pA pn pc, .slice cA cn cc] 39)).drewN N)
      fun e w'' => e = .returned (.int .i64 (bucketOf l : Int)) ∧ ∃ m, w'' = (w.alloc (.cells #[.int .i64 p0, .int .i64 p1, .int .i64 p2, .int .i64 p3, .int .i64 p4, .int .i64 p5, .int .i64 p6, .int .i64 p7, .int .u64 p8, .int .u64 p9, .slice pA pn pc, .slice cA cn cc] 39)).drewN m :=
    fun N => (refBucket A n c l w.heap.size _ (hr.below (below_draws b1 N)) hn).mono fun e w' ⟨he, hw'⟩ => ⟨he, N, hw'.symm⟩
  have Q := Lib.hid q
  clear q
  have hfin : ∀ N, Below w.heap.size w ((w.alloc (.cells #[.int .i64 p0, .int .i64 p1, .int .i64 p2, .int .i64 p3, .int .i64 p4, .int .i64 p5, .int .i64 p6, .int .i64 p7, .int .u64 p8, .int .u64 p9, .slice pA pn pc, .slice cA cn cc] 39)).drewN N) :=
    fun N => below_draws b1 N
  have HF := Lib.hid hfin
  have HF0 := Lib.hid b1
  clear hfin b1 hr
  generalize bucketOf l = k at *
  by_cases h1 : p1 < 0
  · have HR := Lib.hid (show splitOf p1 p2 p4 k = -1 by unfold splitOf; rw [if_pos h1])
    go_enter Tryd.func38, Tryd.ntmps38
    go_wp2
    go_ret
    exact ⟨by rw [HR.out]; rfl, HF0.out⟩
  · by_cases h2 : p2 < 0
    · have hd : decide (p2 < 0) = true := by simp; omega
      have HR := Lib.hid (show splitOf p1 p2 p4 k = p1 by unfold splitOf; rw [if_neg h1, if_pos h2])
      go_enter Tryd.func38, Tryd.ntmps38
      go_wp2
      go_quiet (fail)
      go_wp2
      go_ret
      exact ⟨by rw [HR.out]; rfl, HF.out _⟩
    · have hd : decide (p2 < 0) = false := by simp; omega
      by_cases h3 : (k : Int) < p4
      · have hd3 : decide ((k : Int) < p4) = true := by simp; omega
        have HR := Lib.hid (show splitOf p1 p2 p4 k = p1 by unfold splitOf; rw [if_neg h1, if_neg h2, if_pos h3])
        go_enter Tryd.func38, Tryd.ntmps38
        go_wp2
        go_quiet ((go_at_call 36; exact Q.out _))
        go_wp2
        go_ret
        exact ⟨by rw [HR.out]; rfl, HF.out _⟩
      · have hd3 : decide ((k : Int) < p4) = false := by simp; omega
        have HR := Lib.hid (show splitOf p1 p2 p4 k = p2 by unfold splitOf; rw [if_neg h1, if_neg h2, if_neg h3])
        go_enter Tryd.func38, Tryd.ntmps38
        go_wp2
        go_quiet ((go_at_call 36; exact Q.out _))
        go_wp2
        go_ret
        exact ⟨by rw [HR.out]; rfl, HF.out _⟩

/-! The live question. -/
theorem bucket_nil : bucketOf [] = 0 := by decide +kernel
def plan1 (pc : Int) : PlanV := ⟨0, 1, 0, 0, pc, 0, 0, 0, 0, 0, none, 0, 0, none, 0, 0⟩
def plan0 : PlanV := ⟨0, -1, 0, 0, 0, 0, 0, 0, 0, 0, none, 0, 0, none, 0, 0⟩
set_option maxRecDepth 100000 in
set_option maxHeartbeats 1000000 in
theorem head19 (w : World) (hw : 0 < w.heap.size) (ht : Four w) :
    Calls Tryd.prog 34 #[] w fun e w' => e = .returned (.bool true) ∧ Below w.heap.size w w' := by
  have b1 := (Below.refl w.heap.size w).alloc (Nat.le_refl _) (.cells #[.int .i64 0, .int .i64 1, .int .i64 0, .int .i64 0, .int .i64 0, .int .i64 0, .int .i64 0, .int .i64 0, .int .u64 0, .int .u64 0, .slice none 0 0, .slice none 0 0] 39)
  have hs1 : 0 < (w.alloc (.cells #[.int .i64 0, .int .i64 1, .int .i64 0, .int .i64 0, .int .i64 0, .int .i64 0, .int .i64 0, .int .i64 0, .int .u64 0, .int .u64 0, .slice none 0 0, .slice none 0 0] 39)).heap.size := by simp
  have ht1 := ht.below b1 hw
  have e0 : splitOf (plan1 0).target (plan1 0).prev (plan1 0).percent (bucketOf []) = 0 := by rw [bucket_nil]; decide
  have e1 : splitOf (plan1 100).target (plan1 100).prev (plan1 100).percent (bucketOf []) = 1 := by rw [bucket_nil]; decide
  have e2 : splitOf plan0.target plan0.prev plan0.percent (bucketOf []) = -1 := by rw [bucket_nil]; decide
  have HE0 := Lib.hid e0
  have HE1 := Lib.hid e1
  have HE2 := Lib.hid e2
  clear e0 e1 e2
  go_enter Tryd.func34, Tryd.ntmps34
  go_wp2_with fail
  refine (bucket none 0 0 [] 0 _ (BytesAt.nil _ _ _) (by omega) ht1).mono ?_
  rintro e w' ⟨rfl, rfl⟩
  rw [bucket_nil]
  go_wp2_with fail
  refine (ofSplit (plan1 0) none 0 0 [] _ (BytesAt.nil _ _ _) (by omega) ht1 hs1).mono ?_
  rintro e w2 ⟨rfl, b2⟩
  rw [HE0.out]
  have ht2 := ht1.below b2 hs1
  have hs2 := b2.size
  go_wp2_with fail
  refine (ofSplit (plan1 100) none 0 0 [] _ (BytesAt.nil _ _ _) (by omega) ht2 (by omega)).mono ?_
  rintro e w3 ⟨rfl, b3⟩
  rw [HE1.out]
  have ht3 := ht2.below b3 (by omega)
  have hs3 := b3.size
  go_wp2_with fail
  refine (ofSplit plan0 none 0 0 [] _ (BytesAt.nil _ _ _) (by omega) ht3 (by omega)).mono ?_
  rintro e w4 ⟨rfl, b4⟩
  rw [HE2.out]
  go_wp2
  go_ret
  exact ⟨rfl, ((b1.trans (b2.mono (by simp))).trans (b3.mono (by simp at hs2; omega))).trans (b4.mono (by simp at hs2; omega))⟩
end Go.Proofs.YtddcfgbembjbhaaDoor
