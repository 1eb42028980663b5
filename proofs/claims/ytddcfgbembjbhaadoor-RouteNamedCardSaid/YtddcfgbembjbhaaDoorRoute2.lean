/- Routes: the maker of the order; where a number stands in a slice of ints. -/
import Derived.Test.YtddcfgbembjbhaaDoorRoute
import Derived.Test.YtddcfgbembjbhaaDoorInts
namespace Go.Proofs.YtddcfgbembjbhaaDoor
open Go.RowKit
set_option linter.unusedVariables false
/-- What the order's function value captures lies in three blocks. -/
def seqWorld (w : World) (P : PlanV) (A : Option Addr) (n c : Nat) (s : Int) : World := ((w.alloc (.cells P.cells.toArray 39)).alloc (.cells #[.slice A n c] 23)).alloc (.cells #[.int .i64 s] 3)
set_option maxRecDepth 100000 in
set_option maxHeartbeats 1000000 in
theorem orderSeq (P : PlanV) (A : Option Addr) (n c : Nat) (s : Int) (w : World) : Calls Tryd.prog 75 #[P.val, .slice A n c, .int .i64 s] w fun e w' => e = .returned (.func (.func 83) #[] #[.pointer (some ⟨w.heap.size + 1 + 1, 0, none⟩), .pointer (some ⟨w.heap.size, 0, none⟩), .pointer (some ⟨w.heap.size + 1, 0, none⟩)]) ∧ w' = seqWorld w P A n c s := by
  obtain ⟨p0, p1, p2, p3, p4, p5, p6, p7, p8, p9, pA, pn, pc, cA, cn, cc⟩ := P
  simp only [PlanV.val, PlanV.cells, seqWorld]
  go_enter Tryd.func75, Tryd.ntmps75
  go_wp2
  go_ret
  exact ⟨rfl, rfl⟩
/-- A slice of ints reads as xs, below B. -/
def IntsAt (w : World) (B : Nat) (A : Option Addr) (n : Nat) (xs : List Int) : Prop :=
  xs.length = n ∧ (0 < n → ∃ b, A = some ⟨b, 0, none⟩ ∧ b < B ∧ ∀ j, j < n → w.cell? ⟨b, j, none⟩ = some (.int .i64 (xs.getD j 0)))
theorem IntsAt.below {w w' : World} {B n : Nat} {A : Option Addr} {xs : List Int} (h : IntsAt w B A n xs) (hb : Below B w w') : IntsAt w' B A n xs := ⟨h.1, fun hn => by
  obtain ⟨b, e, hB, hc⟩ := h.2 hn
  exact ⟨b, e, hB, fun j hj => (hb.cell (p := ⟨b, j, none⟩) hB).trans (hc j hj)⟩⟩
theorem OwnI.ints {w : World} {base n c : Nat} {A : Option Addr} {xs : List Int} (h : OwnI w base A n c xs) : IntsAt w w.heap.size A n xs := ⟨h.len, fun hn => by
  obtain ⟨g, rfl, _, hg, _⟩ := h.form_pos hn
  exact ⟨g, rfl, hg, fun j hj => h.cellD j hj⟩⟩
/-- The first place of x, or -1. -/
def indexL (xs : List Int) (x : Int) : Int := if xs.contains x then (xs.findIdx (· == x) : Nat) else -1
set_option maxRecDepth 100000 in
set_option maxHeartbeats 1000000 in
theorem indexInt (A : Option Addr) (n c : Nat) (xs : List Int) (x : Int) (B : Nat) (w : World) (h : IntsAt w B A n xs) (hn : n ≤ 140737488351232) :
    Calls Tryd.prog 85 #[.slice A n c, .int .i64 x] w fun e w' => (∃ r : Int, e = .returned (.int .i64 r) ∧ (r = -1 ∧ x ∉ xs ∨ 0 ≤ r ∧ x ∈ xs)) ∧ w' = w := by
  have hl := h.1
  go_enter Tryd.func85, Tryd.ntmps85
  go_wp2
  go_loopw [8] (fun x8 wr => ∃ k : Nat, k ≤ n ∧ x8 = .int .i64 (k : Int) ∧ (∀ j, j < k → xs.getD j 0 ≠ x) ∧ w = wr) (fun x8 _ => n - (intOf x8).toNat)
  case atStart => exact ⟨0, Nat.zero_le _, rfl, fun j hj => by omega, rfl⟩
  case round =>
    obtain ⟨k, hk, rfl, hno, rfl⟩ := hrel
    by_cases hlt : k < n
    · obtain ⟨b, rfl, hb, hc⟩ := h.2 (by omega)
      have f := hc k hlt
      have HI := Lib.hid (show xs.getD k 0 ∈ xs by rw [List.getD_eq_getElem?_getD, List.getElem?_eq_getElem (by omega)]; exact List.getElem_mem _)
      obtain ⟨y, hy⟩ : ∃ y, xs.getD k 0 = y := ⟨_, rfl⟩
      rw [hy] at f
      have HY := Lib.hid hy
      have HN := Lib.hid hno
      have HH := Lib.hid h
      clear hc hy hno h
      by_cases he : x = y
      · subst he
        go_wp2
        go_ret
        exact ⟨⟨_, rfl, .inr ⟨by omega, by rw [← HY.out]; exact HI.out⟩⟩, rfl⟩
      · have hb' : (x == y) = false := by simpa using he
        go_wp2
        go_roundw
        case rel =>
          refine ⟨k + 1, by omega, by go_num, fun j hj => ?_, by trivial⟩
          by_cases e : j = k
          · subst e
            rw [HY.out]
            exact fun e => he e.symm
          · exact HN.out j (by omega)
        case measure => simp [intOf]; omega
    · obtain rfl : k = n := by omega
      have HN := Lib.hid hno
      clear hno
      go_wp2
      go_ret
      refine ⟨⟨_, rfl, .inl ⟨rfl, fun hm => ?_⟩⟩, rfl⟩
      obtain ⟨j, hj, e⟩ := List.getElem_of_mem hm
      exact HN.out j (by omega) (by rw [List.getD_eq_getElem?_getD, List.getElem?_eq_getElem hj]; exact e)
end Go.Proofs.YtddcfgbembjbhaaDoor
