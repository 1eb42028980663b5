/- Calls of a journal that came in: what they read as. -/
import Derived.Test.YtddcfgbembjbhaaDoorOpenLists
import Derived.Test.YtddcfgbembjbhaaDoorJOps
namespace Go.Proofs.YtddcfgbembjbhaaDoor
open Go.ChangeShapes Go.WideShapes Go.ChangeAt Go.RowKit
theorem cells80 : Tryd.prog.cellsOf 80 = 4 := by kernel_rfl
theorem bytes80 : Tryd.prog.bytesOf 80 = 48 := by kernel_rfl
theorem cells3 : Tryd.prog.cellsOf 3 = 1 := by kernel_rfl
section
variable {H : Type} {enc : TypeId × Value → H} {W : World}
theorem add_add4 (a : Addr) (i j : Nat) : (a.add i).add j = a.add (i + j) := by
  rcases a with ⟨b, o, s⟩
  unfold Addr.add
  split <;> split <;> (try split) <;> simp_all <;> omega
theorem chosen {α : Type} {n : Nat} {p : Nat → α → Prop} (h : ∀ i, i < n → ∃ x, p i x) : ∃ l : List α, l.length = n ∧ ∀ (i : Nat) (x : α), l[i]? = some x → p i x := by
  induction n with
  | zero => exact ⟨[], rfl, fun i x hi => by simp at hi⟩
  | succ n ih =>
    obtain ⟨l, hl, hp⟩ := ih fun i hi => h i (by omega)
    obtain ⟨x, hx⟩ := h n (by omega)
    refine ⟨l ++ [x], by simp [hl], fun i y hi => ?_⟩
    rw [List.getElem?_append] at hi
    split at hi
    · exact hp i y hi
    · rename_i hge
      have h1 := (List.getElem?_eq_some_iff.1 hi).1
      simp at h1
      have h2 : i - l.length = 0 := by omega
      rw [h2] at hi
      simp at hi
      subst hi
      have : i = n := by omega
      rw [this]
      exact hx
theorem u8_of {x : Int} (h : (Lit.int .u8 x).wf = true) : x = ((UInt8.ofNat x.toNat).toNat : Int) := by
  have hb := bounds_u8 h
  have : x.toNat < 256 := by omega
  have e2 : (UInt8.ofNat x.toNat).toNat = x.toNat := by simp; omega
  rw [e2]
  omega
set_option maxRecDepth 100000 in
set_option maxHeartbeats 2000000 in
theorem open_ops {A : Option Addr} {n c : Nat} {d : DataW H} {p : List MemPlace} (h : DataW.Trod enc Tryd.prog W 0 (fun _ => true) true 77 (.slice A n c) d p) (hsz : ∀ x ∈ d.weights Tryd.prog 77, x ≤ 140737488351232) :
    ∃ l, OpsAt W W.heap.size A n l ∧ n ≤ c ∧ n ≤ 9223372036854775806 := by
  obtain ⟨fuel, hf⟩ := h
  rcases Deep.open_slice Tryd.underlying77 hf with ⟨hcs, hx⟩ | ⟨a, len, cap, m, k, D, Pl, hcs, _, hl, _, hm, hx, hr⟩
  · simp [Value.cells] at hcs
    obtain ⟨rfl, rfl, rfl⟩ := hcs
    exact ⟨[], OpsAt.nil _ _ _, Nat.le_refl _, by omega⟩
  · simp [Value.cells] at hcs
    obtain ⟨rfl, rfl, rfl⟩ := hcs
    simp only [if_true] at hm
    subst hm
    simp only [Prod.mk.injEq] at hx
    have hnm : n ≤ 9223372036854775806 := by
      have h1 := hsz
      rw [hx.1] at h1
      have := h1 _ (weight_slice Tryd.underlying77)
      rw [bytes80] at this
      simp at this
      omega
    rcases Nat.eq_zero_or_pos n with rfl | hn0
    · exact ⟨[], OpsAt.nil _ _ _, hl, by omega⟩
    have each : ∀ i, i < n → ∃ op : OpV, ∃ B q e, W.cell? (a.add (i * 4)) = some (.int .i64 op.what) ∧ W.cell? (a.add (i * 4 + 1)) = some (.int .u8 (op.kind.toNat : Int)) ∧ W.cell? (a.add (i * 4 + 2)) = some (.slice B q e) ∧ W.cell? (a.add (i * 4 + 3)) = some (.int .i64 op.num) ∧ BytesAt W W.heap.size B q op.body ∧ q ≤ 140737488351232 ∧ q ≤ e ∧ op.num ≤ 9223372036854775807 := by
      intro i hi
      obtain ⟨cs, h1, h2⟩ := hr i (by omega)
      rw [cells80] at h1
      obtain ⟨_, hlen, hcell⟩ := World.cells?_some h1
      obtain ⟨xs, k', hk, hxy, _, hxl, hfs⟩ := DataW.trod_struct Tryd.underlying80 h2
      match xs, hxl, cs, hlen with
      | [y0, y1, y2, y3], _, [v0, v1, v2, v3], _ =>
        have g0 := hfs 0 _ rfl
        have g1 := hfs 1 _ rfl
        have g2 := hfs 2 _ rfl
        have g3 := hfs 3 _ rfl
        simp [cells3, cells5, cells23] at g0 g1 g2 g3
        have c0 := hcell 0 (by omega)
        have c1 := hcell 1 (by omega)
        have c2 := hcell 2 (by omega)
        have c3 := hcell 3 (by omega)
        rw [add_add4] at c0 c1 c2 c3
        simp only [Prod.mk.injEq] at hxy
        obtain ⟨x0, hv0, _, _⟩ := DataW.trod_int Tryd.underlying3 g0
        obtain ⟨x1, hv1, _, hw1⟩ := DataW.trod_int Tryd.underlying5 g1
        obtain ⟨x3, hv3, _, hw3⟩ := DataW.trod_int Tryd.underlying3 g3
        obtain rfl : v0 = .int .i64 x0 := by simpa using hv0
        obtain rfl : v1 = .int .u8 x1 := by simpa using hv1
        obtain rfl : v3 = .int .i64 x3 := by simpa using hv3
        have hu1 := u8_of hw1
        have hu3 := (bounds_i64 hw3).2
        have hD : D i ∈ (List.range n).map D := List.mem_map.2 ⟨i, List.mem_range.2 hi, rfl⟩
        have hw : ∀ x ∈ y2.1.weights Tryd.prog 23, x ≤ 140737488351232 := by
          intro x hxw
          rw [hx.1] at hsz
          refine hsz x (weights_slice Tryd.underlying77 hD x ?_)
          rw [hxy.1]
          show x ∈ DataW.weights Tryd.prog 80 (.agg [y0.1, y1.1, y2.1, y3.1])
          rw [DataW.weights, Tryd.underlying80]
          exact DataW.weights_mem_each (j := 2) (t := 23) (d := y2.1) rfl rfl x hxw
        rcases open_ints Tryd.underlying23 Tryd.underlying5 cells5 g2 with ⟨hcs, hy⟩ | ⟨a', len', cap', zs, hcs, hb', hl', hm', hz, hy, hcl, hwz⟩
        · obtain rfl : v2 = .slice none 0 0 := by simpa using hcs
          exact ⟨⟨x0, UInt8.ofNat x1.toNat, [], x3⟩, none, 0, 0, by simpa using c0, by rw [← hu1]; simpa using c1, by simpa using c2, by simpa using c3, BytesAt.nil _ _ _, by omega, by omega, hu3⟩
        · obtain rfl : v2 = .slice (some a') len' cap' := by simpa using hcs
          simp only [if_true] at hz
          refine ⟨⟨x0, UInt8.ofNat x1.toNat, bytesOfZ zs len', x3⟩, some a', len', cap', by simpa using c0, by rw [← hu1]; simpa using c1, by simpa using c2, by simpa using c3, bytes_read hz hl' hwz (fun h => by cases h) (fun a'' he c hc => ?_), ?_, hl', hu3⟩
          · cases he
            exact hcl c (by rw [hz]; exact hc)
          · rw [hy] at hw
            have := hw _ (weight_slice Tryd.underlying23)
            rw [bytes5, Nat.mul_one] at this
            simp [lits] at this
            omega
    obtain ⟨l, hll, hlp⟩ := chosen each
    obtain ⟨op0, B0, q0, e0, hc0, _⟩ := each 0 hn0
    rw [Nat.zero_mul] at hc0
    obtain ⟨b, o, rfl, hb⟩ := lit_addr hc0
    refine ⟨l, ⟨hll, fun _ => ⟨b, o, rfl, hb, fun j op hj => ?_⟩⟩, hl, hnm⟩
    obtain ⟨B, q, e, h0, h1, h2, h3, h4⟩ := hlp j op hj
    rw [add_litD] at h0 h1 h2 h3
    exact ⟨B, q, e, h0, h1, h2, h3, h4⟩
end
end Go.Proofs.YtddcfgbembjbhaaDoor
