/- Lists of bytes that are read; Same at equal lists. -/
import Derived.Test.YtddcfgbembjbhaaDoorRefAll
namespace Go.Proofs.YtddcfgbembjbhaaDoor
open Go.RowKit
set_option linter.unusedVariables false
/-- The slice of slices 'A, n' reads as these lists of bytes, below block B. -/
def Lists (w : World) (B : Nat) (A : Option Addr) (n : Nat) (ls : List (List UInt8)) : Prop :=
  ls.length = n ∧ ∀ (i : Nat) (l : List UInt8), ls[i]? = some l → ∃ b o A2 n2 c2, A = some ⟨b, o, none⟩ ∧ b < B ∧ w.cell? ⟨b, o + i, none⟩ = some (.slice A2 n2 c2) ∧ BytesAt w B A2 n2 l
section
variable {w w' : World} {B n : Nat} {A : Option Addr} {ls : List (List UInt8)}
theorem Lists.below (h : Lists w B A n ls) (hb : Below B w w') : Lists w' B A n ls :=
  ⟨h.1, fun i l hi => by
    obtain ⟨b, o, A2, n2, c2, e, hB, hc, hl⟩ := h.2 i l hi
    exact ⟨b, o, A2, n2, c2, e, hB, (hb.cell (p := ⟨b, o + i, none⟩) hB).trans hc, hl.below hb⟩⟩
theorem Lists.draws (h : Lists w B A n ls) (k : Nat) : Lists (w.drewN k) B A n ls := h
theorem Lists.more {B' : Nat} (h : Lists w B A n ls) (hB : B ≤ B') : Lists w B' A n ls :=
  ⟨h.1, fun i l hi => by
    obtain ⟨b, o, A2, n2, c2, e, hb, hc, hl⟩ := h.2 i l hi
    exact ⟨b, o, A2, n2, c2, e, by omega, hc, hl.more hB⟩⟩
theorem Lists.nil (w : World) (B : Nat) (A : Option Addr) : Lists w B A 0 [] := ⟨rfl, fun i l hi => by simp at hi⟩
end
theorem Coll.lists {w : World} {base nK cK nB cB : Nat} {AK AB : Option Addr} {ks : List UInt8} {bs : List (List UInt8)} (h : Coll w base AK nK cK ks AB nB cB bs) : Lists w w.heap.size AB nB bs := by
  obtain ⟨vs, hk, hv, he⟩ := open_coll h
  refine ⟨by rw [← he.1, hv.len], fun i l hi => ?_⟩
  obtain ⟨A, n, c, hvi, ho, _⟩ := he.2 i l hi
  rcases hv.form with ⟨_, _, _, e⟩ | ⟨g, rfl, _, hg, _⟩
  · rw [e] at hvi; simp at hvi
  · exact ⟨g, 0, A, n, c, rfl, hg, by rw [Nat.zero_add]; exact hv.cell i _ hvi, ho.bytes⟩
set_option maxRecDepth 100000 in
set_option maxHeartbeats 2000000 in
theorem same (A1 : Option Addr) (n1 c1 : Nat) (A2 : Option Addr) (n2 c2 : Nat) (ls : List (List UInt8)) (B : Nat) (w : World) (h1 : Lists w B A1 n1 ls) (h2 : Lists w B A2 n2 ls) (hn : n1 ≤ 9223372036854775806) :
    Calls Tryd.prog 53 #[.slice A1 n1 c1, .slice A2 n2 c2] w fun e w' => e = .returned (.bool true) ∧ ∃ m, w' = w.drewN m := by
  obtain rfl : n2 = n1 := by rw [← h1.1, ← h2.1]
  have HL := Lib.hid h1.1
  have H1 := Lib.hid h1
  have H2 := Lib.hid h2
  clear h1 h2
  go_enter Tryd.func53, Tryd.ntmps53
  go_wp2
  go_loopw [5] (fun x5 wr => ∃ k m : Nat, k ≤ n2 ∧ x5 = .int .i64 (k : Int) ∧ wr = w.drewN m) (fun x5 _ => n2 - (intOf x5).toNat)
  case atStart => exact ⟨0, 0, Nat.zero_le _, rfl, rfl⟩
  case round =>
    obtain ⟨k, m, hk, rfl, hw⟩ := hrel
    have HW := Lib.hid hw
    by_cases hlt : k < n2
    · obtain ⟨l, hl⟩ : ∃ l, ls[k]? = some l := ⟨_, List.getElem?_eq_getElem (by rw [HL.out]; exact hlt)⟩
      obtain ⟨b, o, A3, n3, c3, rfl, hb, hc, hr⟩ := H1.out.2 k l hl
      obtain ⟨b', o', A4, n4, c4, rfl, hb', hc', hr'⟩ := H2.out.2 k l hl
      have hcv1 : ∀ N, (convert 23 9 (.slice A3 n3 c3)).run Tryd.prog (wr.drewN N) = .ok (.string (str l)) (wr.drewN N) := by rw [hw]; exact conv_strs (hr.draws m) c3
      have hcv2 : ∀ N, (convert 23 9 (.slice A4 n4 c4)).run Tryd.prog (wr.drewN N) = .ok (.string (str l)) (wr.drewN N) := by rw [hw]; exact conv_strs (hr'.draws m) c4
      have f1 : wr.cell? ⟨b, o + k, none⟩ = some (.slice A3 n3 c3) := by rw [hw]; exact hc
      have f2 : wr.cell? ⟨b', o' + k, none⟩ = some (.slice A4 n4 c4) := by rw [hw]; exact hc'
      have i1 : ((k : Nat) : Int) < (n2 : Int) := by omega
      have i2 : (0 : Int) ≤ (k : Int) := by omega
      have hne : ((str l).toList != (str l).toList) = false := by simp
      generalize str l = s at *
      clear hw hl hc hc' hr hr'
      go_wp2
      go_quiet (fail)
      go_wp2
      go_roundw
      case rel => exact ⟨k + 1, m + nq, by omega, by go_num, by rw [HW.out]; rw [World.drewN_drewN]⟩
      case measure => simp [intOf]; omega
    · obtain rfl : k = n2 := by omega
      clear hw
      go_wp2
      go_ret
      exact ⟨rfl, m, HW.out⟩
end Go.Proofs.YtddcfgbembjbhaaDoor
