/- The law CrcThree, walked. -/
import Derived.Test.YtddcfgbembjbhaaDoorCrcHead
import Derived.Test.YtddcfgbembjbhaaDoorOwn
import Derived.Deep.OwnRows
import Derived.Deep.QuietTactic
import Derived.BigQuiet
import Derived.Deep.RegionWith
namespace Go.Proofs.YtddcfgbembjbhaaDoor
open Go.RowKit
set_option linter.unusedVariables false
/-- What is unlike of three, at a place. -/
def un3 (a b c : List UInt8) (j : Nat) : UInt8 := a.getD j 0 ^^^ b.getD j 0 ^^^ c.getD j 0
/-- The first k of n, the rest zero. -/
def un3s (a b c : List UInt8) (n k : Nat) : List UInt8 := (List.range n).map fun j => if j < k then un3 a b c j else 0
theorem un3s_len (a b c : List UInt8) (n k : Nat) : (un3s a b c n k).length = n := by simp [un3s]
theorem un3s_zero (a b c : List UInt8) (n : Nat) : un3s a b c n 0 = List.replicate n 0 := by
  apply List.ext_getElem?
  intro i
  simp [un3s, List.getElem?_replicate]
  by_cases h : i < n <;> simp [h]
theorem un3s_set (a b c : List UInt8) (n k : Nat) (h : k < n) : (un3s a b c n k).set k (un3 a b c k) = un3s a b c n (k + 1) := by
  apply List.ext_getElem?
  intro i
  simp only [un3s, List.getElem?_set, List.getElem?_map, List.length_map, List.length_range]
  by_cases hi : i < n
  · simp only [List.getElem?_range hi, Option.map_some]
    by_cases hk : k = i
    · subst hk; simp [h]
    · simp only [hk, if_false]
      congr 1
      by_cases h1 : i < k
      · simp [h1, show i < k + 1 from by omega]
      · simp [h1, show ¬ i < k + 1 from by omega]
  · simp [hi]; omega
theorem un3s_zip (a b c : List UInt8) (n : Nat) (ha : n ≤ a.length) (hb : n ≤ b.length) (hc : n ≤ c.length) :
    un3s a b c n n = List.zipWith (· ^^^ ·) (a.take n) (List.zipWith (· ^^^ ·) (b.take n) (c.take n)) := by
  apply List.ext_getElem?
  intro i
  simp only [un3s, List.getElem?_map, List.getElem?_zipWith, List.getElem?_take]
  by_cases hi : i < n
  · simp only [List.getElem?_range hi, Option.map_some, hi, if_true]
    rw [List.getElem?_eq_getElem (by omega : i < a.length), List.getElem?_eq_getElem (by omega : i < b.length), List.getElem?_eq_getElem (by omega : i < c.length)]
    simp [un3, List.getD_eq_getElem?_getD, List.getElem?_eq_getElem (by omega : i < a.length), List.getElem?_eq_getElem (by omega : i < b.length), List.getElem?_eq_getElem (by omega : i < c.length), UInt8.xor_assoc]
  · simp [hi]
theorem sum_three (a b c : List UInt8) (n : Nat) (ha : n ≤ a.length) (hb : n ≤ b.length) (hc : n ≤ c.length) :
    Crc.add 0 (un3s a b c n n) = Crc.add 0 (a.take n) ^^^ Crc.add 0 (b.take n) ^^^ Crc.add 0 (c.take n) := by
  have h := Crc.reg_three (a.take n) (b.take n) (c.take n) _ (~~~ 0) (~~~ 0) (~~~ 0) (by simp; omega) (by simp; omega) rfl
  rw [← un3s_zip a b c n ha hb hc] at h
  have e : (~~~ (0 : BitVec 32)) ^^^ ~~~ 0 ^^^ ~~~ 0 = ~~~ 0 := by decide
  rw [e] at h
  unfold Crc.add
  rw [h]
  have key : ∀ x y z : BitVec 32, ~~~ (x ^^^ y ^^^ z) = ~~~ x ^^^ ~~~ y ^^^ ~~~ z := by
    intro x y z
    apply BitVec.eq_of_getLsbD_eq
    intro i hi
    simp [hi]
  exact key _ _ _

theorem BytesAt.cell {w : World} {B n : Nat} {A : Option Addr} {l : List UInt8} (h : BytesAt w B A n l) (j : Nat) (hj : j < n) : ∃ b o, A = some ⟨b, o, none⟩ ∧ b < B ∧ w.cell? ⟨b, o + j, none⟩ = some (.int .u8 ((l.getD j 0).toNat : Int)) := by
  obtain ⟨b, o, e, hb, hc⟩ := h.2 (by omega)
  refine ⟨b, o, e, hb, ?_⟩
  have hl := h.1
  rw [hc j (by omega), List.getD_eq_getElem?_getD, List.getElem?_eq_getElem (by omega : j < l.length)]
  rfl

set_option maxRecDepth 100000 in
set_option maxHeartbeats 1000000 in
theorem walkCrcThree (w : World) (hw : 0 < w.heap.size) (ht : Four w) (A1 : Option Addr) (n1 c1 : Nat) (l1 : List UInt8) (hr1 : BytesAt w w.heap.size A1 n1 l1) (hc1 : n1 ≤ c1) (hn1 : c1 ≤ 140737488351232)
    (A2 : Option Addr) (n2 c2 : Nat) (l2 : List UInt8) (hr2 : BytesAt w w.heap.size A2 n2 l2) (hc2 : n2 ≤ c2) (hn2 : c2 ≤ 140737488351232)
    (A3 : Option Addr) (n3 c3 : Nat) (l3 : List UInt8) (hr3 : BytesAt w w.heap.size A3 n3 l3) (hc3 : n3 ≤ c3) (hn3 : c3 ≤ 140737488351232) :
    Calls Tryd.prog 6 #[.slice A1 n1 c1, .slice A2 n2 c2, .slice A3 n3 c3] w fun e w' => e = .returned (.bool true) ∧ Below w.heap.size w w' := by
  obtain ⟨m, hm, hm1, hm2, hm3⟩ : ∃ m : Nat, (if (n3 : Int) < (if (n2 : Int) < (n1 : Int) then (n2 : Int) else (n1 : Int)) then (n3 : Int) else (if (n2 : Int) < (n1 : Int) then (n2 : Int) else (n1 : Int))) = (m : Int) ∧ m ≤ n1 ∧ m ≤ n2 ∧ m ≤ n3 :=
    ⟨min n3 (min n2 n1), by omega, by omega, by omega, by omega⟩
  have hmk := run_make_row' (P := Tryd.prog) 23 5 (.int .u8 0) 1 Tryd.underlying23 info5 rfl .i64 .i64 m (by omega) (by omega)
  have hmin := fun w => run_min_int3 (P := Tryd.prog) (w := w) #[3, 3, 3] 3 .i64 .i64 .i64 n1 n2 n3
  simp only [hm] at hmin
  clear hm
  go_enter Tryd.func6, Tryd.ntmps6
  go_wp2_with fail
  refine (head02 w hw ht).mono ?_
  rintro e w1 ⟨rfl, b1⟩
  have hs1 := b1.size
  go_wp2_with fail
  have hown := OwnB.lit w1 w.heap.size w1.heap.size m (madeCells #[.int .u8 0] m) (un3s l1 l2 l3 m 0) rfl hs1 (by rw [toList_madeCells_one, un3s_zero, List.map_replicate]; rfl) (un3s_len _ _ _ _ _) (by simp only [maxLen]; omega)
  have b2 := b1.alloc hs1 (.cells (madeCells #[.int .u8 0] m) 5)
  obtain ⟨g, hg⟩ : ∃ g, g = w1.heap.size := ⟨_, rfl⟩
  rw [← hg] at hown hs1 ⊢
  generalize w1.alloc (Obj.cells (madeCells #[Value.int IntKind.u8 0] m) 5) = w2 at *
  clear hmk hmin hg b1
  go_loopw [10] (fun s wr => ∃ k : Nat, k ≤ m ∧ s = .int .i64 k ∧ OwnB wr w.heap.size (some ⟨g, 0, none⟩) m m (un3s l1 l2 l3 m k) ∧ Below w.heap.size w wr) (fun s _ => m - (intOf s).toNat)
  case atStart => exact ⟨0, by omega, rfl, hown, b2⟩
  case round =>
    obtain ⟨k, hk, rfl, ho, hb⟩ := hrel
    clear hown b2
    by_cases hkm : k < m
    · obtain ⟨p1, o1, rfl, _, d1⟩ := (hr1.below hb).cell k (by omega)
      obtain ⟨p2, o2, rfl, _, d2⟩ := (hr2.below hb).cell k (by omega)
      obtain ⟨p3, o3, rfl, _, d3⟩ := (hr3.below hb).cell k (by omega)
      have hst := ho.set k hkm (un3 l1 l2 l3 k)
      rw [un3s_set _ _ _ _ _ hkm] at hst
      have hci := ho.cell k (by rw [un3s_len]; exact hkm)
      have hfi := ho.frozen k
      generalize hv4 : (un3s l1 l2 l3 m k)[k]'(by rw [un3s_len]; exact hkm) = v4 at hci
      unfold u8 at hci
      have hun : un3 l1 l2 l3 k = l1.getD k 0 ^^^ l2.getD k 0 ^^^ l3.getD k 0 := rfl
      rw [hun] at hst
      generalize l1.getD k 0 = v1 at *
      generalize l2.getD k 0 = v2 at *
      generalize l3.getD k 0 = v3 at *
      have e1 : bits .xor .u8 (v1.toNat : Int) (v2.toNat : Int) = ((v1 ^^^ v2).toNat : Int) := by rw [u8_xor_nat _ _ v1.toNat_lt v2.toNat_lt, UInt8.toNat_xor]
      have e2 : bits .xor .u8 ((v1 ^^^ v2).toNat : Int) (v3.toNat : Int) = ((v1 ^^^ v2 ^^^ v3).toNat : Int) := by rw [u8_xor_nat _ _ (v1 ^^^ v2).toNat_lt v3.toNat_lt, UInt8.toNat_xor (v1 ^^^ v2)]
      generalize v1 ^^^ v2 ^^^ v3 = z at *
      generalize v1 ^^^ v2 = z' at *
      clear hun hv4 hr1 hr2 hr3
      go_wp2
      go_region
      all_goals go_wp2
      go_roundw
      case rel => exact ⟨k + 1, by omega, by go_num, hst.drew, hb.drew.setCell (p := ⟨g, _, none⟩) hs1 _⟩
      case measure => simp [intOf]; omega
    · obtain rfl : k = m := by omega
      have hs := sum_three l1 l2 l3 k (by rw [hr1.1]; exact hm1) (by rw [hr2.1]; exact hm2) (by rw [hr3.1]; exact hm3)
      have ht2 := ht.below hb hw
      have q0 : ∀ N, Calls Tryd.prog 30 #[.slice (some ⟨g, 0, none⟩) k k] (wr.drewN N) fun e w'' => e = .returned (.int .u32 ((Crc.add 0 (un3s l1 l2 l3 k k)).toNat : Int)) ∧ ∃ m, w'' = wr.drewN m :=
        fun N => (crcSum _ k k _ _ (wr.drewN N) (by exact ho.bytes) (by omega) (by exact ht2)).mono fun e w' ⟨he, hw'⟩ => ⟨he, N, hw'.symm⟩
      have q1 : ∀ N, Calls Tryd.prog 30 #[.slice A1 k c1] (wr.drewN N) fun e w'' => e = .returned (.int .u32 ((Crc.add 0 (l1.take k)).toNat : Int)) ∧ ∃ m, w'' = wr.drewN m :=
        fun N => (crcSum _ k _ _ _ (wr.drewN N) (by exact (hr1.below hb).take hm1) (by omega) (by exact ht2)).mono fun e w' ⟨he, hw'⟩ => ⟨he, N, hw'.symm⟩
      have q2 : ∀ N, Calls Tryd.prog 30 #[.slice A2 k c2] (wr.drewN N) fun e w'' => e = .returned (.int .u32 ((Crc.add 0 (l2.take k)).toNat : Int)) ∧ ∃ m, w'' = wr.drewN m :=
        fun N => (crcSum _ k _ _ _ (wr.drewN N) (by exact (hr2.below hb).take hm2) (by omega) (by exact ht2)).mono fun e w' ⟨he, hw'⟩ => ⟨he, N, hw'.symm⟩
      have q3 : ∀ N, Calls Tryd.prog 30 #[.slice A3 k c3] (wr.drewN N) fun e w'' => e = .returned (.int .u32 ((Crc.add 0 (l3.take k)).toNat : Int)) ∧ ∃ m, w'' = wr.drewN m :=
        fun N => (crcSum _ k _ _ _ (wr.drewN N) (by exact (hr3.below hb).take hm3) (by omega) (by exact ht2)).mono fun e w' ⟨he, hw'⟩ => ⟨he, N, hw'.symm⟩
      clear ho hr1 hr2 hr3
      generalize Crc.add 0 (un3s l1 l2 l3 k k) = S0 at *
      generalize Crc.add 0 (l1.take k) = S1 at *
      generalize Crc.add 0 (l2.take k) = S2 at *
      generalize Crc.add 0 (l3.take k) = S3 at *
      subst hs
      have x1 : bits .xor .u32 (S1.toNat : Int) (S2.toNat : Int) = ((S1 ^^^ S2).toNat : Int) := by rw [u32_xor_nat _ _ S1.isLt S2.isLt, BitVec.toNat_xor]
      have x2 : bits .xor .u32 ((S1 ^^^ S2).toNat : Int) (S3.toNat : Int) = ((S1 ^^^ S2 ^^^ S3).toNat : Int) := by rw [u32_xor_nat _ _ (S1 ^^^ S2).isLt S3.isLt, BitVec.toNat_xor (S1 ^^^ S2)]
      generalize S1 ^^^ S2 ^^^ S3 = S at *
      generalize S1 ^^^ S2 = S12 at *
      have H0 := Lib.hid q0
      have H1 := Lib.hid q1
      have H2 := Lib.hid q2
      have H3 := Lib.hid q3
      clear q0 q1 q2 q3
      go_wp2_with fail
      go_quiet (first | (go_at_call_of 30 g; exact H0.out _) | (go_at_call_of 30 A1; exact H1.out _) | (go_at_call_of 30 A2; exact H2.out _) | (go_at_call_of 30 A3; exact H3.out _))
      go_wp2
      go_ret
      exact ⟨rfl, ⟨hb.os, hb.tape, hb.output, hb.size, hb.block⟩⟩
end Go.Proofs.YtddcfgbembjbhaaDoor
