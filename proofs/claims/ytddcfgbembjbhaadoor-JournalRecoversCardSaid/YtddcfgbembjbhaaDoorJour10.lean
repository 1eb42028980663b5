/- Journals: what was handed out stays; the live question, as a plain law. -/
import Derived.Test.YtddcfgbembjbhaaDoorJour9
namespace Go.Proofs.YtddcfgbembjbhaaDoor
open Go.RowKit
set_option linter.unusedVariables false
/-- Rows that lie at base or above are left alone by whoever writes below base alone. -/
theorem OwnB.keptC {w w' : World} {base n c : Nat} {C : Nat → Prop} {A : Option Addr} {l : List UInt8} (h : OwnB w base A n c l) (hK : Kept C w w') (hC : ∀ k, C k → k < base ∨ w.heap.size ≤ k) : OwnB w' base A n c l := by
  rcases h.2 with h0 | ⟨g, cap, cur, hv, hb, hg, rest⟩
  · exact ⟨h.1, .inl h0⟩
  · refine ⟨h.1, .inr ⟨g, cap, cur, hv, hb, ?_, rest⟩⟩
    have hlt := (Array.getElem?_eq_some_iff.1 hg).1
    exact (hK.block g hlt (fun hc => by rcases hC g hc with h | h <;> omega)).trans hg
theorem OwnV.keptC {w w' : World} {base n c : Nat} {C : Nat → Prop} {A : Option Addr} {vs : List Value} (h : OwnV w base A n c vs) (hK : Kept C w w') (hC : ∀ k, C k → k < base ∨ w.heap.size ≤ k) : OwnV w' base A n c vs := by
  rcases h.2 with h0 | ⟨g, cap, cur, hv, hb, hg, rest⟩
  · exact ⟨h.1, .inl h0⟩
  · refine ⟨h.1, .inr ⟨g, cap, cur, hv, hb, ?_, rest⟩⟩
    have hlt := (Array.getElem?_eq_some_iff.1 hg).1
    exact (hK.block g hlt (fun hc => by rcases hC g hc with h | h <;> omega)).trans hg
theorem Coll.keptC {w w' : World} {base nK cK nB cB : Nat} {C : Nat → Prop} {AK AB : Option Addr} {ks : List UInt8} {bs : List (List UInt8)} (h : Coll w base AK nK cK ks AB nB cB bs) (hK : Kept C w w') (hC : ∀ k, C k → k < base ∨ w.heap.size ≤ k) :
    Coll w' base AK nK cK ks AB nB cB bs := by
  obtain ⟨vs, hk, hv, he⟩ := open_coll h
  refine ⟨hk.keptC hK hC, vs, hv.keptC hK hC, he.1, fun i b hi => ?_⟩
  obtain ⟨A, n, c, hvi, ho, hne⟩ := he.2 i b hi
  exact ⟨A, n, c, hvi, ho.keptC hK hC, hne⟩
/-! ### The live question, as a plain law -/
theorem frames_one (k : UInt8) (l : List UInt8) (h : l.length ≤ 8192) : frames (fput k l) = [(k, l)] := by
  have := frames_put k l [] h
  rwa [List.append_nil, frames_nil] at this
theorem flen_one (k : UInt8) (l : List UInt8) : flen [(k, l)] = l.length + 8 := by rw [flen_cons, flen_nil]
theorem new_append (k : UInt8) (l : List UInt8) (h : l.length ≤ 8192) : JV.new.append k l = (0, ⟨[], fput k l, -1, false⟩) := by
  unfold JV.append
  rw [if_neg (by omega)]
  rfl
theorem head_sync (k : UInt8) (l : List UInt8) : (⟨[], fput k l, -1, false⟩ : JV).sync = (0, ⟨fput k l, [], -1, false⟩) := rfl
theorem head_crash (k : UInt8) (l : List UInt8) : (⟨fput k l, [], -1, false⟩ : JV).crash 0 = ⟨fput k l, [], -1, true⟩ := by
  unfold JV.crash
  simp
theorem head_eff (k : UInt8) (l : List UInt8) : (⟨fput k l, [], -1, true⟩ : JV).eff = (61, ⟨fput k l, [], -1, true⟩) := rfl
theorem head_open (k : UInt8) (l : List UInt8) (h : l.length ≤ 8192) : (⟨fput k l, [], -1, true⟩ : JV).open = (([(k, l)], 0), ⟨fput k l, [], -1, false⟩) := by
  unfold JV.open
  rw [if_neg (by simp only; rw [frames_one k l h, flen_one, fput_len]; omega)]
  simp only
  rw [frames_one k l h]
  rfl
end Go.Proofs.YtddcfgbembjbhaaDoor
