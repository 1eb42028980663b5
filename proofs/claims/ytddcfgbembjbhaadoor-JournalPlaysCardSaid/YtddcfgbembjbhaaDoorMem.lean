/- Slices of bytes that are read, and what keeps them: no program. -/
import Derived.WalkKit
import Derived.WalkSpells
import Derived.Lib.Hide
namespace Go.Proofs.YtddcfgbembjbhaaDoor
open Go.RowKit

/-- The slice 'A, n' reads as the bytes 'l', all of them below block B. -/
def BytesAt (w : World) (B : Nat) (A : Option Addr) (n : Nat) (l : List UInt8) : Prop :=
  l.length = n ∧ (0 < n → ∃ b o, A = some ⟨b, o, none⟩ ∧ b < B ∧ ∀ j (h : j < l.length), w.cell? ⟨b, o + j, none⟩ = some (.int .u8 (l[j].toNat : Int)))

section
variable {w w' : World} {B B' n : Nat} {A : Option Addr} {l : List UInt8}
theorem BytesAt.keep (h : BytesAt w B A n l) (hk : ∀ p : Addr, p.block < B → w'.cell? p = w.cell? p) : BytesAt w' B A n l :=
  ⟨h.1, fun hn => by
    obtain ⟨b, o, e, hb, hc⟩ := h.2 hn
    exact ⟨b, o, e, hb, fun j hj => (hk _ hb).trans (hc j hj)⟩⟩
theorem BytesAt.below (h : BytesAt w B A n l) (hb : Below B w w') : BytesAt w' B A n l := h.keep fun _ hp => hb.cell hp
theorem BytesAt.more (h : BytesAt w B A n l) (hB : B ≤ B') : BytesAt w B' A n l :=
  ⟨h.1, fun hn => by
    obtain ⟨b, o, e, hb, hc⟩ := h.2 hn
    exact ⟨b, o, e, by omega, hc⟩⟩
end

theorem BytesAt.take {w : World} {B n k : Nat} {A : Option Addr} {l : List UInt8} (h : BytesAt w B A n l) (hk : k ≤ n) : BytesAt w B A k (l.take k) := by
  have hl := h.1
  refine ⟨by simp; omega, fun h0 => ?_⟩
  obtain ⟨b, o, e, hb, hc⟩ := h.2 (by omega)
  refine ⟨b, o, e, hb, fun j hj => ?_⟩
  simp at hj
  rw [List.getElem_take]
  exact hc j (by omega)
theorem BytesAt.nil (w : World) (B : Nat) (A : Option Addr) : BytesAt w B A 0 [] := ⟨rfl, fun h => absurd h (by omega)⟩
/-- A byte's value. -/
def u8 (b : UInt8) : Value := .int .u8 (b.toNat : Int)
/-- A block of bytes that was just laid. -/
theorem BytesAt.new (w : World) (C : Array Value) (e : TypeId) (fr : Nat × Nat) (l : List UInt8) (n g B : Nat) (hn : l.length = n) (hC : C.toList = l.map u8) (hg : g = w.heap.size) (hB : g < B) :
    BytesAt (w.alloc (.cells C e fr)) B (some ⟨g, 0, none⟩) n l := by
  subst hg
  refine ⟨hn, fun _ => ⟨w.heap.size, 0, rfl, by omega, fun j hj => ?_⟩⟩
  rw [cell_of_row _ _ _ C e fr (heap_alloc_new w _)]
  have : C[0 + j]? = C.toList[j]? := by simp
  rw [this, hC, List.getElem?_map, List.getElem?_eq_getElem hj]
  rfl

theorem bcell {W w1 : World} (hb : Below W.heap.size W w1) : (∀ b o, b < W.heap.size → w1.cell? ⟨b, o, none⟩ = W.cell? ⟨b, o, none⟩) ∧ (∀ b o, b < W.heap.size → w1.frozen? ⟨b, o, none⟩ = W.frozen? ⟨b, o, none⟩) :=
  ⟨fun b o h => hb.cell (p := ⟨b, o, none⟩) h, fun b o h => hb.frozen (p := ⟨b, o, none⟩) h⟩
theorem ret_int {k : IntKind} {a b : Int} (h : a = b) : Ending.returned (.int k a) = .returned (.int k b) := by rw [h]

end Go.Proofs.YtddcfgbembjbhaaDoor
