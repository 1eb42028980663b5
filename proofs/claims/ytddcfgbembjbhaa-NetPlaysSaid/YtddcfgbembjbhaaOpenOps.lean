/- Calls that came in. -/
import Derived.Test.YtddcfgbembjbhaaOpen
import Derived.Test.YtddcfgbembjbhaaOps
namespace Go.Proofs.Ytddcfgbembjbhaa
open Go.ChangeShapes Go.WideShapes Go.ChangeAt Go.RowKit
theorem cells39 : Try.prog.cellsOf 39 = 3 := by kernel_rfl
theorem cells3 : Try.prog.cellsOf 3 = 1 := by kernel_rfl
section
variable {H : Type} {enc : TypeId × Value → H} {W : World}
theorem add_add3 (a : Addr) (i j : Nat) : (a.add i).add j = a.add (i + j) := by
  rcases a with ⟨b, o, s⟩
  unfold Addr.add
  split <;> split <;> (try split) <;> simp_all <;> omega
theorem chosen {α : Type} {n : Nat} {p : Nat → α → Prop} (h : ∀ i, i < n → ∃ x, p i x) : ∃ l : List α, l.length = n ∧ ∀ (i : Nat) (x : α), l[i]? = some x → p i x := by
  induction n with
  | zero => exact ⟨[], rfl, fun i x hi => by simp at hi⟩
  | succ n ih =>
    obtain ⟨l, hl, hp⟩ := ih fun i hi => h i (by omega)
    obtain ⟨x, hx⟩ := h n (by omega)
    refine ⟨l ++ [x], by simp [hl], fun i y hi => ?_⟩
    rw [List.getElem?_append] at hi
    split at hi
    · exact hp i y hi
    · rename_i hge
      have h1 := (List.getElem?_eq_some_iff.1 hi).1
      simp at h1
      have h2 : i - l.length = 0 := by omega
      rw [h2] at hi
      simp at hi
      subst hi
      have : i = n := by omega
      rw [this]
      exact hx
set_option maxHeartbeats 1000000 in
theorem open_ops {A : Option Addr} {n c : Nat} {d : DataW H} {p : List MemPlace} (h : DataW.Trod enc Try.prog W 0 (fun _ => true) true 34 (.slice A n c) d p) (hsz : ∀ x ∈ d.weights Try.prog 34, x ≤ 140737488351232) :
    ∃ l, Ops W (fun k => k < W.heap.size) A n l ∧ n ≤ c := by
  obtain ⟨fuel, hf⟩ := h
  rcases Deep.open_slice Try.underlying34 hf with ⟨hcs, hx⟩ | ⟨a, len, cap, m, k, D, Pl, hcs, _, hl, _, hm, hx, hr⟩
  · simp [Value.cells] at hcs
    obtain ⟨rfl, rfl, rfl⟩ := hcs
    exact ⟨[], ⟨rfl, fun h => by omega⟩, Nat.le_refl _⟩
  · simp [Value.cells] at hcs
    obtain ⟨rfl, rfl, rfl⟩ := hcs
    simp only [if_true] at hm
    subst hm
    simp only [Prod.mk.injEq] at hx
    rcases Nat.eq_zero_or_pos n with rfl | hn0
    · exact ⟨[], ⟨rfl, fun h => by omega⟩, hl⟩
    have each : ∀ i, i < n → ∃ op : OpV, ∃ B q e, W.cell? (a.add (i * 3)) = some (.int .i64 op.what) ∧ W.cell? (a.add (i * 3 + 1)) = some (.slice B q e) ∧ W.cell? (a.add (i * 3 + 2)) = some (.int .i64 op.i) ∧ Bytes W (fun k => k < W.heap.size) B q op.b ∧ q ≤ 140737488351232 := by
      intro i hi
      obtain ⟨cs, h1, h2⟩ := hr i (by omega)
      rw [cells39] at h1
      obtain ⟨_, hlen, hcell⟩ := World.cells?_some h1
      obtain ⟨xs, k', hk, hxy, _, hxl, hfs⟩ := DataW.trod_struct Try.underlying39 h2
      match xs, hxl, cs, hlen with
      | [y0, y1, y2], _, [v0, v1, v2], _ =>
        have g0 := hfs 0 _ rfl
        have g1 := hfs 1 _ rfl
        have g2 := hfs 2 _ rfl
        simp [cells3, cells28] at g0 g1 g2
        have c0 := hcell 0 (by omega)
        have c1 := hcell 1 (by omega)
        have c2 := hcell 2 (by omega)
        rw [add_add3] at c0 c1 c2
        simp only [Prod.mk.injEq] at hxy
        obtain ⟨x0, hv0, _, _⟩ := DataW.trod_int Try.underlying3 g0
        obtain ⟨x2, hv2, _, _⟩ := DataW.trod_int Try.underlying3 g2
        obtain rfl : v0 = .int .i64 x0 := by simpa using hv0
        obtain rfl : v2 = .int .i64 x2 := by simpa using hv2
        have hD : D i ∈ (List.range n).map D := List.mem_map.2 ⟨i, List.mem_range.2 hi, rfl⟩
        have hw : ∀ x ∈ y1.1.weights Try.prog 28, x ≤ 140737488351232 := by
          intro x hxw
          rw [hx.1] at hsz
          refine hsz x (weights_slice Try.underlying34 hD x ?_)
          rw [hxy.1]
          show x ∈ DataW.weights Try.prog 39 (.agg [y0.1, y1.1, y2.1])
          rw [DataW.weights, Try.underlying39]
          exact DataW.weights_mem_each (j := 1) (t := 28) (d := y1.1) rfl rfl x hxw
        rcases open_ints Try.underlying28 Try.underlying5 cells5 g1 with ⟨hcs, hy⟩ | ⟨a', len', cap', zs, hcs, hb', hl', hm', hz, hy, hcl, hwz⟩
        · obtain rfl : v1 = .slice none 0 0 := by simpa using hcs
          exact ⟨⟨x0, [], x2⟩, none, 0, 0, by simpa using c0, by simpa using c1, by simpa using c2, Cells.none_ _ _ _ _, by omega⟩
        · obtain rfl : v1 = .slice (some a') len' cap' := by simpa using hcs
          simp only [if_true] at hz
          refine ⟨⟨x0, bytesOfZ zs len', x2⟩, some a', len', cap', by simpa using c0, by simpa using c1, by simpa using c2, bytes_read hz hl' hwz (fun h => by cases h) (fun a'' he c hc => ?_), ?_⟩
          · cases he
            exact hcl c (by rw [hz]; exact hc)
          · rw [hy] at hw
            have := hw _ (weight_slice Try.underlying28)
            rw [bytes5, Nat.mul_one] at this
            simp [lits] at this
            omega
    obtain ⟨l, hll, hlp⟩ := chosen each
    obtain ⟨op0, B0, q0, e0, hc0, _⟩ := each 0 hn0
    rw [Nat.zero_mul] at hc0
    obtain ⟨b, o, rfl, hb⟩ := lit_addr hc0
    refine ⟨l, ⟨hll.symm, fun _ => ⟨b, o, rfl, hb, hb, fun j op hj => ?_⟩⟩, hl⟩
    obtain ⟨B, q, e, h0, h1, h2, h3, h4⟩ := hlp j op hj
    rw [add_lit] at h0 h1 h2
    exact ⟨B, q, e, h0, h1, h2, h3, h4⟩
end
end Go.Proofs.Ytddcfgbembjbhaa
