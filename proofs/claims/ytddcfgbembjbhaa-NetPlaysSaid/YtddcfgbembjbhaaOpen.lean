/- What the arguments of the statements read as: for the rows' outer parts. -/
import Derived.Test.YtddcfgbembjbhaaRows
import Derived.Test.YtddcfgbembjbhaaWNetDoubles
import Derived.ProofKit
import Derived.OpenShut
import Derived.SizedLaws
import Derived.Deep.DeepHandedRow
import Derived.Deep.Matrix
import Derived.Lib.LaidTab
namespace Go.Proofs.Ytddcfgbembjbhaa
open Go.ChangeShapes Go.WideShapes Go.ChangeAt Go.RowKit

theorem own : ownKnob Try.prog.godebug = none := by kernel_rfl
theorem laidOut : laidOutB Try.prog = true := by kernel_rfl
theorem cells5 : Try.prog.cellsOf 5 = 1 := by kernel_rfl
theorem cells28 : Try.prog.cellsOf 28 = 1 := by kernel_rfl
theorem bytes5 : Try.prog.bytesOf 5 = 1 := by kernel_rfl
/-- A world for the witnesses. -/
noncomputable def plainWorld (os : Os) : World := World.holding Try.prog os ⟨#[], #[], []⟩

theorem weights_all {H : Type} {P : Program} {e : TypeId} : ∀ {l : List (DataW H)} {d : DataW H}, d ∈ l → ∀ n ∈ d.weights P e, n ∈ DataW.weightsAll P e l
  | x :: l, d, hd, n, hn => by
    rw [DataW.weightsAll]
    rcases List.mem_cons.1 hd with rfl | h
    · exact List.mem_append_left _ hn
    · exact List.mem_append_right _ (weights_all h n hn)
theorem weights_slice {H : Type} {P : Program} {t e : TypeId} (ht : P.underlying t = some (.slice e)) {elems spare : List (DataW H)} {d : DataW H} (hd : d ∈ elems) : ∀ n ∈ d.weights P e, n ∈ (DataW.slice elems spare).weights P t := by
  intro n hn
  rw [DataW.weights, ht]
  exact List.mem_cons_of_mem _ (List.mem_append_left _ (weights_all hd n hn))
theorem weight_slice {H : Type} {P : Program} {t e : TypeId} (ht : P.underlying t = some (.slice e)) {elems spare : List (DataW H)} : (elems.length + spare.length) * P.bytesOf e ∈ (DataW.slice elems spare).weights P t := by
  rw [DataW.weights, ht]
  exact List.mem_cons_self
section
variable {H : Type} {enc : TypeId × Value → H} {W : World}
theorem weights_of {ts : List TypeId} {ds : List (DataW H)} {j : Nat} {t : TypeId} {d : DataW H} (hz : (DataW.weightsEach Try.prog ts ds).all (· ≤ reachBytes) = true) (ht : ts[j]? = some t) (hd : ds[j]? = some d) : ∀ n ∈ d.weights Try.prog t, n ≤ 140737488351232 := by
  intro n hn
  have h := List.all_eq_true.1 hz n (DataW.weights_mem_each ht hd n hn)
  have e : reachBytes = 140737488351232 := by decide
  rw [← e]
  exact of_decide_eq_true h
def bytesOfZ (zs : List Int) (n : Nat) : List UInt8 := (zs.take n).map fun z => UInt8.ofNat z.toNat
theorem bytesOfZ_u8 {zs : List Int} {n : Nat} (hw : ∀ z ∈ zs, (Lit.int .u8 z).wf = true) {j : Nat} {u : Value} (hu : ((bytesOfZ zs n).map u8)[j]? = some u) : j < n ∧ j < zs.length ∧ u = .int .u8 (zs.getD j 0) := by
  unfold bytesOfZ at hu
  rw [List.getElem?_map, List.getElem?_map, List.getElem?_take] at hu
  split at hu
  · rename_i hj
    rcases Nat.lt_or_ge j zs.length with hjz | hjz
    · rw [List.getElem?_eq_getElem hjz] at hu
      simp only [Option.map_some, Option.some.injEq] at hu
      refine ⟨hj, hjz, ?_⟩
      rw [← hu]
      have hb := bounds_u8 (hw zs[j] (List.getElem_mem hjz))
      have e1 : zs.getD j 0 = zs[j] := by simp [List.getD, List.getElem?_eq_getElem hjz]
      unfold u8
      rw [e1]
      have : zs[j].toNat < 256 := by omega
      have e2 : (UInt8.ofNat zs[j].toNat).toNat = zs[j].toNat := by simp; omega
      rw [e2]
      congr 1
      omega
    · rw [List.getElem?_eq_none hjz] at hu
      cases hu
  · cases hu
theorem lit_addr {a : Addr} {v : Value} (h : W.cell? (a.add 0) = some v) : ∃ b o, a = ⟨b, o, none⟩ ∧ b < W.heap.size := by
  obtain ⟨b, o, spot⟩ := a
  have hs : spot = none := by simpa [Addr.add] using World.cell?_spot h
  subst hs
  refine ⟨b, o, rfl, ?_⟩
  have := World.block_lt_of_cell? W _ h
  rw [add_lit] at this
  exact this
theorem bytes_read {A : Option Addr} {L C : Nat} {zs : List Int} (hz : zs.length = C) (hL : L ≤ C) (hw : ∀ z ∈ zs, (Lit.int .u8 z).wf = true) (h0 : A = none → C = 0) (hc : ∀ a', A = some a' → ∀ c, c < C → W.cell? (a'.add c) = some (.int .u8 (zs.getD c 0))) :
    Bytes W (fun k => k < W.heap.size) A L (bytesOfZ zs L) := by
  refine ⟨by unfold bytesOfZ; simp; omega, fun hn => ?_⟩
  rcases A with _ | a
  · have := h0 rfl
    omega
  · obtain ⟨b, o, rfl, hb⟩ := lit_addr (hc a rfl 0 (by omega))
    refine ⟨b, o, rfl, hb, hb, fun j u hu => ?_⟩
    obtain ⟨h1, h2, rfl⟩ := bytesOfZ_u8 hw hu
    have := hc _ rfl j (by omega)
    rwa [add_lit] at this
theorem open_lists {A : Option Addr} {n c : Nat} {d : DataW H} {p : List MemPlace} (h : DataW.Trod enc Try.prog W 0 (fun _ => true) true 22 (.slice A n c) d p) (hsz : ∀ x ∈ d.weights Try.prog 22, x ≤ 140737488351232) :
    ∃ ms, Lists W (fun k => k < W.heap.size) A n ms ∧ n ≤ c := by
  obtain ⟨fuel, hf⟩ := h
  rcases Deep.open_int_rows Try.underlying22 Try.underlying28 Try.underlying5 cells28 cells5 hf with ⟨hcs, hx⟩ | ⟨a, len, cap, As, L, C, Z, hcs, _, hl, _, hx, hr⟩
  · simp [Value.cells] at hcs
    obtain ⟨rfl, rfl, rfl⟩ := hcs
    exact ⟨[], ⟨[], Cells.none_ _ _ _ _, rfl, fun i m hi => by simp at hi⟩, Nat.le_refl _⟩
  · simp [Value.cells] at hcs
    obtain ⟨rfl, rfl, rfl⟩ := hcs
    simp only [Prod.mk.injEq] at hx
    refine ⟨(List.range n).map fun r => bytesOfZ (Z r) (L r), ⟨(List.range n).map fun r => .slice (As r) (L r) (C r), ⟨by simp, fun hn => ?_⟩, by simp, fun i m hi => ?_⟩, hl⟩
    · obtain ⟨b, o, rfl, hb⟩ := lit_addr (hr 0 (by omega)).1
      refine ⟨b, o, rfl, hb, hb, fun j u hu => ?_⟩
      rw [List.getElem?_map] at hu
      rcases Nat.lt_or_ge j n with hj | hj
      · rw [List.getElem?_range hj] at hu
        simp only [Option.map_some, Option.some.injEq] at hu
        rw [← hu]
        have := (hr j (by omega)).1
        rwa [add_lit] at this
      · rw [List.getElem?_eq_none (by simpa using hj)] at hu
        cases hu
    · rw [List.getElem?_map] at hi
      rcases Nat.lt_or_ge i n with hj | hj
      · rw [List.getElem?_range hj] at hi
        simp only [Option.map_some, Option.some.injEq] at hi
        subst hi
        obtain ⟨h1, h2, h3, h4, h5, h6, h7⟩ := hr i (by omega)
        refine ⟨_, by rw [List.getElem?_map, List.getElem?_range hj]; rfl, As i, L i, C i, rfl, bytes_read h4 h2 h5 h6 (fun a' ha => (h7 a' ha).2), ?_⟩
        rcases hA : As i with _ | a'
        · have := h6 hA
          omega
        · rw [hx.1] at hsz
          have hmem : Deep.intRow (H := H) .u8 (As i) (L i) (Z i) ∈ (List.range n).map fun r => Deep.intRow (H := H) .u8 (As r) (L r) (Z r) := List.mem_map.2 ⟨i, List.mem_range.2 hj, rfl⟩
          have := hsz _ (weights_slice Try.underlying22 hmem _ (by rw [hA]; exact weight_slice Try.underlying28))
          rw [bytes5, Nat.mul_one] at this
          simp [lits] at this
          omega
      · rw [List.getElem?_eq_none (by simpa using hj)] at hi
        cases hi
end
end Go.Proofs.Ytddcfgbembjbhaa
