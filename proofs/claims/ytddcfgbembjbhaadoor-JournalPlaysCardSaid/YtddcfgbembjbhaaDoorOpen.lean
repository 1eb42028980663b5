/- What the arguments of the statements read as, and the table: for the rows' outer parts. -/
import Derived.Test.YtddcfgbembjbhaaDoorCards
import Derived.Test.YtddcfgbembjbhaaDoorTie
import Derived.Test.YtddcfgbembjbhaaDoorCrc
import Derived.ProofKit
import Derived.OpenShut
import Derived.Deep.DeepHandedRow
import Derived.Lib.LaidTab
namespace Go.Proofs.YtddcfgbembjbhaaDoor
open Go.ChangeShapes Go.WideShapes Go.ChangeAt Go.RowKit

theorem own : ownKnob Tryd.prog.godebug = none := by kernel_rfl
theorem laidOut : laidOutB Tryd.prog = true := by kernel_rfl
theorem gFour : Tryd.prog.globalNamed "locum/crc.four" = some 0 := by kernel_rfl
theorem gFourType : (Tryd.prog.globals[0]?).map (·.type) = some 86 := by kernel_rfl
theorem cells86 : Tryd.prog.cellsOf 86 = 16 := by kernel_rfl
theorem cells22 : Tryd.prog.cellsOf 22 = 1 := by kernel_rfl
theorem cells5 : Tryd.prog.cellsOf 5 = 1 := by kernel_rfl
theorem bytes5 : Tryd.prog.bytesOf 5 = 1 := by kernel_rfl

def fours : List Int := [0, 498536548, 997073096, 651767980, 1994146192, 1802195444, 1303535960, 1342533948, 3988292384, 4027552580, 3604390888, 3412177804, 2607071920, 2262029012, 2685067896, 3183342108]
def laidFour : List (String × DataW Unit) := [("locum/crc.four", Rows.laid_locum_crc_four)]
theorem table {W : World} (h : laidMetH Tryd.prog laidFour W) : Lib.TabIs Tryd.prog W "locum/crc.four" .u32 fours :=
  Lib.tabIs_of_head (rest := []) gFour gFourType Tryd.underlying86 Tryd.underlying22 cells22 cells86 h
theorem fours_are : ∀ i : Fin 16, fours[i.val]? = some ((Crc.four i.val).toNat : Int) := by decide +kernel
theorem four_of_laid {W : World} (h : laidMetH Tryd.prog laidFour W) : Four W := by
  intro i hi
  have hf := fours_are ⟨i, hi⟩
  have hc := (table h).cell gFour i (show i < fours.length from hi)
  simp only at hf
  rw [hc, List.getD_eq_getElem?_getD, hf]
  rfl
theorem heap_pos {W : World} (h : laidMetH Tryd.prog laidFour W) : 0 < W.heap.size := World.block_lt_of_cell? W _ (four_of_laid h 0 (by omega))

/-- A world for the witnesses: the settled one, the table holding what its initialiser lays. -/
noncomputable def laidWorld (os : Os) : World :=
  { World.holding Tryd.prog os ⟨#[], #[], []⟩ with heap := (World.holding Tryd.prog os ⟨#[], #[], []⟩).heap.modify 0 fun
      | .cells _ t frozen => .cells #[.int .u32 0, .int .u32 498536548, .int .u32 997073096, .int .u32 651767980, .int .u32 1994146192, .int .u32 1802195444, .int .u32 1303535960, .int .u32 1342533948, .int .u32 3988292384, .int .u32 4027552580, .int .u32 3604390888, .int .u32 3412177804, .int .u32 2607071920, .int .u32 2262029012, .int .u32 2685067896, .int .u32 3183342108] t frozen
      | o => o }

section
variable {H : Type} {enc : TypeId × Value → H} {W : World}
/-- A slice of bytes that came in: its length and its data. -/
def BytesData (n c : Nat) (d : DataW H) : Prop := (n = 0 ∧ c = 0 ∧ d = .nil) ∨ ∃ elems spare, d = .slice elems spare ∧ elems.length = n ∧ elems.length + spare.length = c
theorem open_bytes {A : Option Addr} {n c : Nat} {d : DataW H} {p : List MemPlace} (h : DataW.Trod enc Tryd.prog W 0 (fun _ => true) true 23 (.slice A n c) d p) :
    ∃ l, BytesAt W W.heap.size A n l ∧ n ≤ c ∧ BytesData n c d := by
  obtain ⟨fuel, hf⟩ := h
  rcases open_ints Tryd.underlying23 Tryd.underlying5 cells5 hf with ⟨hcs, hx⟩ | ⟨x, l, cp, zs, hcs, _, hl, hm, hz, hx, hcell, hwz⟩
  · simp [Value.cells] at hcs
    obtain ⟨rfl, rfl, rfl⟩ := hcs
    simp at hx
    exact ⟨[], BytesAt.nil _ _ _, Nat.le_refl _, .inl ⟨rfl, rfl, hx.1⟩⟩
  · simp [Value.cells] at hcs
    obtain ⟨rfl, rfl, rfl⟩ := hcs
    have hz' : zs.length = c := by simpa using hz
    simp at hx
    refine ⟨(zs.take n).map fun z => UInt8.ofNat z.toNat, ⟨by simp [hz']; omega, fun hn => ?_⟩, hl, .inr ⟨_, _, hx.1, by simp [lits, hz']; omega, by simp [lits, hz']; omega⟩⟩
    obtain ⟨b, off, spot⟩ := x
    have h0 := hcell 0 (by omega)
    have hspot : spot = none := by simpa [Addr.add] using World.cell?_spot h0
    subst hspot
    have hlt : b < W.heap.size := by
      have := World.block_lt_of_cell? W _ h0
      simpa [Addr.add] using this
    refine ⟨b, off, rfl, hlt, fun j hj => ?_⟩
    simp at hj
    have hc := hcell j (by omega)
    have ha : (⟨b, off, none⟩ : Addr).add j = ⟨b, off + j, none⟩ := by unfold Addr.add; split <;> simp_all
    rw [ha] at hc
    rw [hc]
    have hjz : j < zs.length := by omega
    have hw := hwz zs[j] (List.getElem_mem hjz)
    have hb := bounds_u8 hw
    have e1 : zs.getD j 0 = zs[j] := by simp [List.getD, List.getElem?_eq_getElem hjz]
    rw [e1]
    congr 2
    simp only [List.getElem_map, List.getElem_take]
    have : (zs[j].toNat) < 256 := by omega
    have e2 : (UInt8.ofNat zs[j].toNat).toNat = zs[j].toNat := by simp; omega
    rw [e2]
    omega
theorem bytes_size {ts : List TypeId} {ds : List (DataW H)} {j n c : Nat} {d : DataW H} (hz : (DataW.weightsEach Tryd.prog ts ds).all (· ≤ reachBytes) = true) (ht : ts[j]? = some 23) (hd : ds[j]? = some d) (h : BytesData n c d) : c ≤ 140737488351232 := by
  rcases h with ⟨_, rfl, _⟩ | ⟨elems, spare, rfl, h1, h2⟩
  · omega
  · have := sized_slice hz ht hd Tryd.underlying23
    rw [bytes5, Nat.mul_one] at this
    have e : reachBytes = 140737488351232 := by decide
    omega
/-- Inputs of bounded bulk: the bound, and a slice's share. -/
theorem bulk_bound {ds : List (DataW H)} (hk : Rows.uptoSmall H ds = true) : Rows.uptoBulkAll ds ≤ 1048576 := of_decide_eq_true hk
theorem bulk_one (d : DataW H) : 1 ≤ Rows.uptoBulk d := by
  cases d with
  | lit l => cases l <;> simp [Rows.uptoBulk]
  | _ => simp [Rows.uptoBulk]
theorem bulk_length (l : List (DataW H)) : l.length ≤ Rows.uptoBulkAll l := by
  induction l with
  | nil => exact Nat.zero_le _
  | cons d l ih => have := bulk_one d; simp only [Rows.uptoBulkAll, List.length_cons]; omega
theorem bytes_bulk {n c : Nat} {d : DataW H} (h : BytesData n c d) : n ≤ Rows.uptoBulk d := by
  rcases h with ⟨rfl, _, _⟩ | ⟨elems, spare, rfl, h1, _⟩
  · exact Nat.zero_le _
  · have := bulk_length elems
    simp only [Rows.uptoBulk]
    omega
end
end Go.Proofs.YtddcfgbembjbhaaDoor
