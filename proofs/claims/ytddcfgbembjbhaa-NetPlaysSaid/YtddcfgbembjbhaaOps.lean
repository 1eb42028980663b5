/- Calls of a net, as the statements hold them. -/
import Derived.Test.YtddcfgbembjbhaaWNetDoubles
import Derived.Laws.Bits128
namespace Go.Proofs.Ytddcfgbembjbhaa
open Go.RowKit
set_option linter.unusedVariables false
/-- A call: which, bytes, a number. -/
structure OpV where
  what : Int
  b : List UInt8
  i : Int
def OpAt (w : World) (R : Nat → Prop) (b o : Nat) (op : OpV) : Prop :=
  ∃ B k d, w.cell? ⟨b, o, none⟩ = some (.int .i64 op.what) ∧ w.cell? ⟨b, o + 1, none⟩ = some (.slice B k d) ∧ w.cell? ⟨b, o + 2, none⟩ = some (.int .i64 op.i) ∧ Bytes w R B k op.b ∧ k ≤ 140737488351232
def Ops (w : World) (R : Nat → Prop) (A : Option Addr) (n : Nat) (l : List OpV) : Prop :=
  n = l.length ∧ (0 < n → ∃ b o, A = some ⟨b, o, none⟩ ∧ b < w.heap.size ∧ R b ∧ ∀ (j : Nat) (op : OpV), l[j]? = some op → OpAt w R b (o + j * 3) op)
theorem OpAt.frame {w w' : World} {C R : Nat → Prop} {b o : Nat} {op : OpV} (h : OpAt w R b o op) (hb : b < w.heap.size) (hr : R b) (hf : Frame C w w') (hd : ∀ k, R k → ¬ C k) : OpAt w' R b o op := by
  obtain ⟨B, k, d, h0, h1, h2, h3, h4⟩ := h
  exact ⟨B, k, d, (hf.cell (p := ⟨b, o, none⟩) hb (hd b hr)).trans h0, (hf.cell (p := ⟨b, o + 1, none⟩) hb (hd b hr)).trans h1, (hf.cell (p := ⟨b, o + 2, none⟩) hb (hd b hr)).trans h2, Cells.frame h3 hf hd, h4⟩
theorem Ops.at_ {w w' : World} {base : Nat} {A : Option Addr} {n : Nat} {l : List OpV} (h : Ops w (fun k => k < base) A n l) (hb : Below base w w') {j : Nat} (hj : j < n) :
    ∃ b o op, A = some ⟨b, o, none⟩ ∧ l[j]? = some op ∧ OpAt w' (fun k => k < base) b (o + j * 3) op := by
  obtain ⟨hn, h0⟩ := h
  obtain ⟨b, o, rfl, hbl, hr, hc⟩ := h0 (by omega)
  have hjl : j < l.length := by omega
  exact ⟨b, o, l[j], rfl, List.getElem?_eq_getElem hjl, (hc j _ (List.getElem?_eq_getElem hjl)).frame hbl hr (Frame.of_below_at hb) fun k hk hc => by omega⟩
theorem and3 (n : Int) : bits .and .i64 n 3 = n % 4 := by
  have h3 : (BitVec.ofInt 64 3).toNat = 2 ^ 2 - 1 := by decide
  have key : (BitVec.ofInt 64 n &&& BitVec.ofInt 64 3).toNat = (n % ((2 ^ 64 : Nat) : Int)).toNat % 2 ^ 2 := by
    rw [BitVec.toNat_and, BitVec.toNat_ofInt, h3, Nat.and_two_pow_sub_one_eq_mod]
  show IntKind.i64.wrap ((BitVec.ofInt 64 n &&& BitVec.ofInt 64 3).toNat : Nat) = n % 4
  rw [key, IntKind.wrap_i64]
  omega
theorem what4 (x : Int) : bits .and .i64 x 3 = 0 ∨ bits .and .i64 x 3 = 1 ∨ bits .and .i64 x 3 = 2 ∨ bits .and .i64 x 3 = 3 := by rw [and3]; omega
/-- The statement's own copy of a call, in block q. -/
def Copy (w : World) (q : Nat) (op : OpV) (B : Option Addr) (k d : Nat) : Prop :=
  w.cell? ⟨q, 0, none⟩ = some (.int .i64 op.what) ∧ w.cell? ⟨q, 1, none⟩ = some (.slice B k d) ∧ w.cell? ⟨q, 2, none⟩ = some (.int .i64 op.i) ∧ q < w.heap.size
theorem Copy.turns {b : Nat} {X : Nat → Prop} {w w' : World} {q : Nat} {op : OpV} {B : Option Addr} {k d : Nat} (h : Copy w q op B k d) (hf : Frame (Turns b X) w w') (hX : X q) : Copy w' q op B k d :=
  ⟨(hf.cell (p := ⟨q, 0, none⟩) h.2.2.2 fun ht => ht.2 hX).trans h.1, (hf.cell (p := ⟨q, 1, none⟩) h.2.2.2 fun ht => ht.2 hX).trans h.2.1, (hf.cell (p := ⟨q, 2, none⟩) h.2.2.2 fun ht => ht.2 hX).trans h.2.2.1, Nat.lt_of_lt_of_le h.2.2.2 hf.size⟩
theorem NetIn.copy {b p q : Nat} {w : World} {ms : List (List UInt8)} (h : NetIn b None w p ms) (o : Obj) (hq : q = w.heap.size) : NetIn b (fun k => k = q) (w.alloc o) p ms := by
  obtain ⟨C, D, hn, hB, hX⟩ := h
  refine ⟨C, D, hn.later ((Below.refl _ _).alloc (Nat.le_refl _) o), hB, fun k hk => ?_⟩
  subst hq
  subst hk
  exact ⟨by simp, fun hc => by have := hn.bound _ (.inl hc); omega⟩
end Go.Proofs.Ytddcfgbembjbhaa
