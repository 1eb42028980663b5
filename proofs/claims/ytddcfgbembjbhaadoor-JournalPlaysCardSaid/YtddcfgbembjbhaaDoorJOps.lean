/- Calls of a journal, as the statements hold them: no walk. -/
import Derived.Test.YtddcfgbembjbhaaDoorJour11
import Derived.Laws.Bits128
namespace Go.Proofs.YtddcfgbembjbhaaDoor
open Go.RowKit
set_option linter.unusedVariables false
/-- A call: which, a kind, a body, a number. -/
structure OpV where
  what : Int
  kind : UInt8
  body : List UInt8
  num : Int
def OpAt (w : World) (B : Nat) (b o : Nat) (op : OpV) : Prop :=
  ∃ A k d, w.cell? ⟨b, o, none⟩ = some (.int .i64 op.what) ∧ w.cell? ⟨b, o + 1, none⟩ = some (.int .u8 (op.kind.toNat : Int)) ∧ w.cell? ⟨b, o + 2, none⟩ = some (.slice A k d) ∧ w.cell? ⟨b, o + 3, none⟩ = some (.int .i64 op.num) ∧ BytesAt w B A k op.body ∧ k ≤ 140737488351232 ∧ k ≤ d ∧ op.num ≤ 9223372036854775807
/-- The slice of calls 'A, n' reads as l, all below block B. -/
def OpsAt (w : World) (B : Nat) (A : Option Addr) (n : Nat) (l : List OpV) : Prop :=
  l.length = n ∧ (0 < n → ∃ b o, A = some ⟨b, o, none⟩ ∧ b < B ∧ ∀ (j : Nat) (op : OpV), l[j]? = some op → OpAt w B b (o + j * 4) op)
theorem OpAt.below {w w' : World} {B b o : Nat} {op : OpV} (h : OpAt w B b o op) (hb : b < B) (hB : Below B w w') : OpAt w' B b o op := by
  obtain ⟨A, k, d, h0, h1, h2, h3, h4, h5⟩ := h
  exact ⟨A, k, d, (hB.cell (p := ⟨b, o, none⟩) hb).trans h0, (hB.cell (p := ⟨b, o + 1, none⟩) hb).trans h1, (hB.cell (p := ⟨b, o + 2, none⟩) hb).trans h2, (hB.cell (p := ⟨b, o + 3, none⟩) hb).trans h3, h4.below hB, h5⟩
theorem OpsAt.nil (w : World) (B : Nat) (A : Option Addr) : OpsAt w B A 0 [] := ⟨rfl, fun h => absurd h (by omega)⟩
theorem OpsAt.below {w w' : World} {B : Nat} {A : Option Addr} {n : Nat} {l : List OpV} (h : OpsAt w B A n l) (hb : Below B w w') : OpsAt w' B A n l :=
  ⟨h.1, fun hn => by
    obtain ⟨b, o, e, hB, hc⟩ := h.2 hn
    exact ⟨b, o, e, hB, fun j op hj => (hc j op hj).below hB hb⟩⟩
theorem OpsAt.at_ {w w' : World} {B : Nat} {A : Option Addr} {n : Nat} {l : List OpV} (h : OpsAt w B A n l) (hb : Below B w w') {j : Nat} (hj : j < n) :
    ∃ b o op, A = some ⟨b, o, none⟩ ∧ b < B ∧ l[j]? = some op ∧ OpAt w' B b (o + j * 4) op := by
  obtain ⟨hn, h0⟩ := h
  obtain ⟨b, o, rfl, hbl, hc⟩ := h0 (by omega)
  have hjl : j < l.length := by omega
  exact ⟨b, o, l[j], rfl, hbl, List.getElem?_eq_getElem hjl, (hc j _ (List.getElem?_eq_getElem hjl)).below hbl hb⟩
/-! ### Which call -/
theorem andTwo (k : Nat) (n : Int) (m : Int) (hk : k < 64) (hm : (BitVec.ofInt 64 m).toNat = 2 ^ k - 1) (h3 : (2 : Nat) ^ k ≤ 2 ^ 62) (h4 : ((2 ^ 64 : Nat) : Int) % ((2 ^ k : Nat) : Int) = 0) : bits .and .i64 n m = n % ((2 ^ k : Nat) : Int) := by
  have key : (BitVec.ofInt 64 n &&& BitVec.ofInt 64 m).toNat = (n % ((2 ^ 64 : Nat) : Int)).toNat % 2 ^ k := by
    rw [BitVec.toNat_and, BitVec.toNat_ofInt, hm, Nat.and_two_pow_sub_one_eq_mod]
  show IntKind.i64.wrap ((BitVec.ofInt 64 n &&& BitVec.ofInt 64 m).toNat : Nat) = n % _
  rw [key, IntKind.wrap_i64]
  have h5 : (n % ((2 ^ 64 : Nat) : Int)) % ((2 ^ k : Nat) : Int) = n % ((2 ^ k : Nat) : Int) := Int.emod_emod_of_dvd n (Int.dvd_of_emod_eq_zero h4)
  have h6 : 0 ≤ n % ((2 ^ 64 : Nat) : Int) := Int.emod_nonneg _ (by decide)
  have h7 : (((n % ((2 ^ 64 : Nat) : Int)).toNat % 2 ^ k : Nat) : Int) = n % ((2 ^ k : Nat) : Int) := by
    rw [Int.natCast_emod, Int.toNat_of_nonneg h6, h5]
  have h8 : (n % ((2 ^ 64 : Nat) : Int)).toNat % 2 ^ k < 2 ^ k := Nat.mod_lt _ (Nat.two_pow_pos k)
  generalize (n % ((2 ^ 64 : Nat) : Int)).toNat % 2 ^ k = r at *
  rw [← h7]
  have h9 : r < 2 ^ 62 := by omega
  omega
theorem and3 (n : Int) : bits .and .i64 n 3 = n % 4 := andTwo 2 n 3 (by decide) (by decide) (by decide) (by decide)
theorem and7 (n : Int) : bits .and .i64 n 7 = n % 8 := andTwo 3 n 7 (by decide) (by decide) (by decide) (by decide)
theorem what4 (x : Int) : bits .and .i64 x 3 = 0 ∨ bits .and .i64 x 3 = 1 ∨ bits .and .i64 x 3 = 2 ∨ bits .and .i64 x 3 = 3 := by rw [and3]; omega
theorem what8 (x : Int) : bits .and .i64 x 7 = 0 ∨ bits .and .i64 x 7 = 1 ∨ bits .and .i64 x 7 = 2 ∨ bits .and .i64 x 7 = 3 ∨ bits .and .i64 x 7 = 4 ∨ bits .and .i64 x 7 = 5 ∨ bits .and .i64 x 7 = 6 ∨ bits .and .i64 x 7 = 7 := by rw [and7]; omega
/-! ### Is it too much? -/
def opW (o : OpV) : Nat := 10 + min o.body.length 200000
def opsW (l : List OpV) : Nat := (l.map opW).sum
theorem opsW_nil : opsW [] = 0 := rfl
theorem opsW_append (l r : List OpV) : opsW (l ++ r) = opsW l + opsW r := by simp [opsW]
theorem opsW_take_succ {l : List OpV} {k : Nat} (h : k < l.length) : opsW (l.take (k + 1)) = opsW (l.take k) + opW l[k] := by
  rw [List.take_succ_eq_append_getElem h, opsW_append]
  simp [opsW]
theorem opsW_take_le (l : List OpV) (k : Nat) : opsW (l.take k) ≤ opsW l := by
  have h := opsW_append (l.take k) (l.drop k)
  rw [List.take_append_drop] at h
  omega
/-! ### How much a journal holds -/
def JV.size (J : JV) : Nat := J.kept.length + J.rest.length
theorem eff_size (J : JV) : J.eff.2.size = J.size := by unfold JV.size; rw [(eff_rest J).1, (eff_rest J).2]
theorem append_size (k : UInt8) (b : List UInt8) (J : JV) : (J.append k b).2.size ≤ J.size + (b.length + 8) ∧ (J.append k b).2.size ≤ J.size + 8200 := by
  unfold JV.append
  split
  · exact ⟨by simp, by simp⟩
  · split
    · have h1 := (eff_rest J).2
      have h2 := fput_len k b
      unfold JV.size
      simp only [List.length_append]
      rw [h1, h2]
      omega
    · rw [eff_size]
      exact ⟨by simp, by simp⟩
theorem sync_size (J : JV) : J.sync.2.size = J.size := by
  unfold JV.sync
  split
  · unfold JV.size; simp
  · exact eff_size J
theorem fuse_size (n : Int) (J : JV) : (J.setFuse n).size = J.size := rfl
theorem crash_size (n : Int) (J : JV) : (J.crash n).size ≤ J.size := by
  unfold JV.crash JV.size
  simp only [List.length_append, List.length_take, List.length_nil]
  omega
theorem open_size (J : JV) : J.open.2.size ≤ J.size := by
  have h1 := (eff_rest J.up).1
  have h2 := (eff_rest J.up).2
  unfold JV.open
  split
  · split
    · unfold JV.size
      simp only [List.length_take]
      rw [h1]
      simp only [JV.up, List.length_nil]
      omega
    · unfold JV.size
      simp only
      rw [h1, h2]
      simp only [JV.up, List.length_nil]
      omega
  · unfold JV.size
    simp only [JV.up, List.length_nil]
    omega
/-! ### The fuse -/
def JV.fits (J : JV) : Prop := -1 ≤ J.fuse ∧ J.fuse ≤ 9223372036854775807
theorem eff_fits {J : JV} (h : J.fits) : J.eff.2.fits := by
  unfold JV.fits at *
  unfold JV.eff
  split
  · exact h
  · split
    · exact ⟨(by decide : (-1 : Int) ≤ -1), (by decide : (-1 : Int) ≤ 9223372036854775807)⟩
    · split
      · exact ⟨by show -1 ≤ J.fuse - 1; omega, by show J.fuse - 1 ≤ _; omega⟩
      · exact h
theorem append_fits {J : JV} (h : J.fits) (k : UInt8) (b : List UInt8) : (J.append k b).2.fits := by
  have h1 := eff_fits h
  unfold JV.append
  split
  · exact h
  · split
    · exact h1
    · exact h1
theorem sync_fits {J : JV} (h : J.fits) : J.sync.2.fits := by
  have h1 := eff_fits h
  unfold JV.sync
  split
  · exact h1
  · exact h1
theorem fuse_fits {J : JV} (n : Int) (h : n ≤ 9223372036854775807) : (J.setFuse n).fits := by
  unfold JV.fits JV.setFuse
  simp only
  omega
theorem crash_fits (J : JV) (n : Int) : (J.crash n).fits := ⟨(by decide : (-1 : Int) ≤ -1), (by decide : (-1 : Int) ≤ 9223372036854775807)⟩
theorem open_fits {J : JV} (h : J.fits) : J.open.2.fits := by
  have h0 : J.up.fits := h
  have h1 := eff_fits h0
  unfold JV.open
  split
  · split
    · exact h1
    · exact h1
  · exact h0
theorem JV.fits.bounds {J : JV} (h : J.fits) : -9223372036854775808 ≤ J.fuse ∧ J.fuse ≤ 9223372036854775807 := ⟨by have := h.1; omega, h.2⟩
end Go.Proofs.YtddcfgbembjbhaaDoor
