/- Slices of slices of bytes that came in: what they read as. -/
import Derived.Test.YtddcfgbembjbhaaDoorOpen
import Derived.Test.YtddcfgbembjbhaaDoorSame
import Derived.SizedLaws
import Derived.Deep.Matrix
namespace Go.Proofs.YtddcfgbembjbhaaDoor
open Go.ChangeShapes Go.WideShapes Go.ChangeAt Go.RowKit
theorem cells23 : Tryd.prog.cellsOf 23 = 1 := by kernel_rfl
theorem add_litD (b o j : Nat) : (⟨b, o, none⟩ : Addr).add j = ⟨b, o + j, none⟩ := by unfold Addr.add; split <;> simp_all
theorem weights_all {H : Type} {P : Program} {e : TypeId} : ∀ {l : List (DataW H)} {d : DataW H}, d ∈ l → ∀ n ∈ d.weights P e, n ∈ DataW.weightsAll P e l
  | x :: l, d, hd, n, hn => by
    rw [DataW.weightsAll]
    rcases List.mem_cons.1 hd with rfl | h
    · exact List.mem_append_left _ hn
    · exact List.mem_append_right _ (weights_all h n hn)
theorem weights_slice {H : Type} {P : Program} {t e : TypeId} (ht : P.underlying t = some (.slice e)) {elems spare : List (DataW H)} {d : DataW H} (hd : d ∈ elems) : ∀ n ∈ d.weights P e, n ∈ (DataW.slice elems spare).weights P t := by
  intro n hn
  rw [DataW.weights, ht]
  exact List.mem_cons_of_mem _ (List.mem_append_left _ (weights_all hd n hn))
theorem weight_slice {H : Type} {P : Program} {t e : TypeId} (ht : P.underlying t = some (.slice e)) {elems spare : List (DataW H)} : (elems.length + spare.length) * P.bytesOf e ∈ (DataW.slice elems spare).weights P t := by
  rw [DataW.weights, ht]
  exact List.mem_cons_self
/-- A slice of slices that came in: its lists, each within the reach. -/
def ListsArg (w : World) (A : Option Addr) (n : Nat) (ls : List (List UInt8)) : Prop := Lists w w.heap.size A n ls ∧ ∀ l ∈ ls, l.length ≤ 140737488351232
section
variable {H : Type} {enc : TypeId × Value → H} {W : World}
theorem weights_of {ts : List TypeId} {ds : List (DataW H)} {j : Nat} {t : TypeId} {d : DataW H} (hz : (DataW.weightsEach Tryd.prog ts ds).all (· ≤ reachBytes) = true) (ht : ts[j]? = some t) (hd : ds[j]? = some d) : ∀ n ∈ d.weights Tryd.prog t, n ≤ 140737488351232 := by
  intro n hn
  have h := List.all_eq_true.1 hz n (DataW.weights_mem_each ht hd n hn)
  have e : reachBytes = 140737488351232 := by decide
  rw [← e]
  exact of_decide_eq_true h
def bytesOfZ (zs : List Int) (n : Nat) : List UInt8 := (zs.take n).map fun z => UInt8.ofNat z.toNat
theorem bytesOfZ_at {zs : List Int} {n : Nat} (hw : ∀ z ∈ zs, (Lit.int .u8 z).wf = true) (j : Nat) (h : j < (bytesOfZ zs n).length) : j < zs.length ∧ zs.getD j 0 = ((bytesOfZ zs n)[j].toNat : Int) := by
  have hj : j < zs.length := by unfold bytesOfZ at h; simp at h; omega
  refine ⟨hj, ?_⟩
  have hb := bounds_u8 (hw zs[j] (List.getElem_mem hj))
  have e1 : zs.getD j 0 = zs[j] := by simp [List.getD, List.getElem?_eq_getElem hj]
  rw [e1]
  simp only [bytesOfZ, List.getElem_map, List.getElem_take]
  have : zs[j].toNat < 256 := by omega
  have e2 : (UInt8.ofNat zs[j].toNat).toNat = zs[j].toNat := by simp; omega
  rw [e2]
  omega
theorem lit_addr {a : Addr} {v : Value} (h : W.cell? (a.add 0) = some v) : ∃ b o, a = ⟨b, o, none⟩ ∧ b < W.heap.size := by
  obtain ⟨b, o, spot⟩ := a
  have hs : spot = none := by simpa [Addr.add] using World.cell?_spot h
  subst hs
  refine ⟨b, o, rfl, ?_⟩
  have := World.block_lt_of_cell? W _ h
  rw [add_litD] at this
  exact this
theorem bytes_read {A : Option Addr} {L C : Nat} {zs : List Int} (hz : zs.length = C) (hL : L ≤ C) (hw : ∀ z ∈ zs, (Lit.int .u8 z).wf = true) (h0 : A = none → C = 0) (hc : ∀ a', A = some a' → ∀ c, c < C → W.cell? (a'.add c) = some (.int .u8 (zs.getD c 0))) :
    BytesAt W W.heap.size A L (bytesOfZ zs L) := by
  refine ⟨by unfold bytesOfZ; simp; omega, fun hn => ?_⟩
  rcases A with _ | a
  · have := h0 rfl
    omega
  · obtain ⟨b, o, rfl, hb⟩ := lit_addr (hc a rfl 0 (by omega))
    refine ⟨b, o, rfl, hb, fun j hj => ?_⟩
    obtain ⟨h1, h2⟩ := bytesOfZ_at hw j hj
    have := hc _ rfl j (by omega)
    rw [add_litD, h2] at this
    exact this
theorem open_lists {A : Option Addr} {n c : Nat} {d : DataW H} {p : List MemPlace} (h : DataW.Trod enc Tryd.prog W 0 (fun _ => true) true 61 (.slice A n c) d p) (hsz : ∀ x ∈ d.weights Tryd.prog 61, x ≤ 140737488351232) :
    ∃ ms, ListsArg W A n ms ∧ n ≤ c := by
  obtain ⟨fuel, hf⟩ := h
  rcases Deep.open_int_rows Tryd.underlying61 Tryd.underlying23 Tryd.underlying5 cells23 cells5 hf with ⟨hcs, hx⟩ | ⟨a, len, cap, As, L, C, Z, hcs, _, hl, _, hx, hr⟩
  · simp [Value.cells] at hcs
    obtain ⟨rfl, rfl, rfl⟩ := hcs
    exact ⟨[], ⟨Lists.nil _ _ _, fun l hl => by simp at hl⟩, Nat.le_refl _⟩
  · simp [Value.cells] at hcs
    obtain ⟨rfl, rfl, rfl⟩ := hcs
    simp only [Prod.mk.injEq] at hx
    have hlen : ∀ i, i < n → L i ≤ 140737488351232 := fun i hi => by
      obtain ⟨_, h2, _, h4, _, h6, _⟩ := hr i (by omega)
      rcases hA : As i with _ | a'
      · have := h6 hA
        omega
      · rw [hx.1] at hsz
        have hmem : Deep.intRow (H := H) .u8 (As i) (L i) (Z i) ∈ (List.range n).map fun r => Deep.intRow (H := H) .u8 (As r) (L r) (Z r) := List.mem_map.2 ⟨i, List.mem_range.2 hi, rfl⟩
        have := hsz _ (weights_slice Tryd.underlying61 hmem _ (by rw [hA]; exact weight_slice Tryd.underlying23))
        rw [bytes5, Nat.mul_one] at this
        simp [lits] at this
        omega
    refine ⟨(List.range n).map fun r => bytesOfZ (Z r) (L r), ⟨⟨by simp, fun i l hi => ?_⟩, fun l hl' => ?_⟩, hl⟩
    · rw [List.getElem?_map] at hi
      rcases Nat.lt_or_ge i n with hj | hj
      · rw [List.getElem?_range hj] at hi
        simp only [Option.map_some, Option.some.injEq] at hi
        subst hi
        obtain ⟨b, o, rfl, hb⟩ := lit_addr (hr 0 (by omega)).1
        obtain ⟨h1, h2, h3, h4, h5, h6, h7⟩ := hr i (by omega)
        rw [add_litD] at h1
        exact ⟨b, o, As i, L i, C i, rfl, hb, h1, bytes_read h4 h2 h5 h6 (fun a' ha => (h7 a' ha).2)⟩
      · rw [List.getElem?_eq_none (by simpa using hj)] at hi
        cases hi
    · obtain ⟨i, hi, rfl⟩ := List.mem_map.1 hl'
      have hin := List.mem_range.1 hi
      have := hlen i hin
      unfold bytesOfZ
      simp
      omega
end
end Go.Proofs.YtddcfgbembjbhaaDoor
