/- Messages under way: the document's Take. -/
import Derived.Test.YtddcfgbembjbhaaNet3
namespace Go.Proofs.Ytddcfgbembjbhaa
open Go.RowKit
set_option linter.unusedVariables false

def kept (xs : List Value) (j k : Nat) : List Value := (xs.take k).eraseIdx j
theorem kept_len (xs : List Value) (j k : Nat) (hk : k ≤ xs.length) : (kept xs j k).length = if j < k then k - 1 else k := by
  unfold kept
  rw [List.length_eraseIdx, List.length_take, Nat.min_eq_left hk]
theorem kept_skip (xs : List Value) (j : Nat) (hj : j < xs.length) : kept xs j (j + 1) = kept xs j j := by
  unfold kept
  rw [List.take_add_one, List.getElem?_eq_getElem hj, Option.toList_some]
  have hl : (xs.take j).length = j := by rw [List.length_take]; omega
  rw [List.eraseIdx_append_of_length_le (by omega), hl, Nat.sub_self, List.eraseIdx_of_length_le (l := xs.take j) (by omega)]
  simp
theorem kept_keep (xs : List Value) (j k : Nat) (hk : k < xs.length) (hne : k ≠ j) : kept xs j (k + 1) = kept xs j k ++ [xs[k]] := by
  unfold kept
  rw [List.take_add_one, List.getElem?_eq_getElem hk, Option.toList_some]
  have hl : (xs.take k).length = k := by rw [List.length_take]; omega
  rcases Nat.lt_or_ge j k with h | h
  · rw [List.eraseIdx_append_of_lt_length (by omega)]
  · rw [List.eraseIdx_append_of_length_le (by omega), hl, List.eraseIdx_of_length_le (l := xs.take k) (by omega), List.eraseIdx_of_length_le (l := [xs[k]]) (by simp; omega)]
theorem kept_all (xs : List Value) (j : Nat) : kept xs j xs.length = xs.take j ++ xs.drop (j + 1) := by
  unfold kept
  rw [List.take_length, List.eraseIdx_eq_take_drop_succ]
theorem slices {w : World} {D : Nat → Prop} {vs : List Value} {ms : List (List UInt8)} {n : Nat} (hn : n = ms.length) (hv : vs.length = n * 1) (hm : ∀ (i : Nat) (m : List UInt8), ms[i]? = some m → ∃ v, vs[i]? = some v ∧ MsgAt w D v m) (t : Nat) (u : Value) (hu : vs[t]? = some u) : ∃ B k d, u = .slice B k d := by
  have ht := (List.getElem?_eq_some_iff.1 hu).1
  obtain ⟨v', h1, A, k, c, rfl, _⟩ := hm t (ms[t]'(by omega)) (List.getElem?_eq_getElem (by omega))
  rw [hu] at h1
  exact ⟨A, k, c, Option.some.inj h1⟩
theorem reftaken {τ : TypeId} {C D : Nat → Prop} {p : Nat} {ms : List (List UInt8)} {w w1 : World} (h : NetAt w τ C D p ms) {A : Option Addr} {n c : Nat} (hc0 : w.cell? ⟨p, 0, none⟩ = some (.slice A n c))
    (hb : Below w.heap.size w w1) {A7 : Option Addr} {n7 c7 : Nat} {b : List UInt8} (hown : Bytes w D A7 n7 b) (hn7 : n7 ≤ 140737488351232) {vs : List Value} (hrow : Row w 28 0 A n c 1 vs) (hn : n = ms.length) {j : Nat} (hj : j < n) (hr : atOf ms j = some b)
    {A4 : Option Addr} {c4 : Nat} (hrow3 : Row w1 28 w.heap.size A4 (n - 1) c4 1 (vs.take j ++ vs.drop (j + 1))) :
    Taken τ C D p ms (j : Int) w (.returned (.tuple #[.slice A7 n7 c7, .bool true])) (w1.setCell ⟨p, 0, none⟩ (.slice A4 (n - 1) c4)) := by
  have hbd : ∀ k, C k ∨ D k → k < w.heap.size := by
    obtain ⟨_, _, _, _, _, _, _, _, _, _, _, hbd⟩ := h
    exact hbd
  have hap : ∀ k, D k → ¬ C k := by
    obtain ⟨_, _, _, _, _, _, _, _, _, _, hap, _⟩ := h
    exact hap
  have hs1 := hb.size
  have h4 := hrow3.block
  have hrow0 : Row w1 28 0 A4 (n - 1) c4 1 (vs.take j ++ vs.drop (j + 1)) := by
    refine ⟨hrow3.1, ?_⟩
    rcases hrow3.2 with h0 | ⟨g, cur, e, _, rest⟩
    · exact .inl h0
    · exact .inr ⟨g, cur, e, Nat.zero_le _, rest⟩
  obtain ⟨r1, r2, r3, r4, _⟩ := replaced h hc0 (w1 := w1) hb hrow hrow0 (World.grownBy.refl w1 _) (ms4 := ms.eraseIdx j) (.inr fun k hk => (h4 k hk).1) (by rw [List.length_eraseIdx, if_pos (by omega)]; omega) (erased hn hrow.1 hj)
  refine .inr ⟨b, A7, n7, c7, fun k => C k ∨ inRow A4 k, D, hr, rfl, Cells.frame hown r2 hap, hn7, by rw [Int.toNat_natCast]; exact r1, r2, r3, fun k hk => ⟨?_, .inl hk⟩⟩
  rintro (hc | hc)
  · exact hap k hk hc
  · have := (h4 k hc).1
    have := hbd k (.inr hk)
    omega
set_option maxRecDepth 1000000 in
set_option maxHeartbeats 2000000 in
theorem reftake (C D : Nat → Prop) (p : Nat) (ms : List (List UInt8)) (i : Int) (w : World) (h : NetAt w 37 C D p ms) (hl : ms.length ≤ 400) : Calls Try.prog 14 #[.pointer (some ⟨p, 0, none⟩), .int .i64 i] w (Taken 37 C D p ms i w) := by
  have QA := Lib.hid (refat C D p ms i w h)
  have hnet := Lib.hid h
  rcases hr : atOf ms i with _ | b
  · rw [hr] at QA
    clear h
    go_enter Try.func14, Try.ntmps14
    go_wp2_with (go_at_call 18; refine QA.out.mono ?_; rintro e w1 ⟨A, n, c, rfl, hown, hn, rfl⟩)
    go_ret2
    exact .inl ⟨hr, ⟨none, 0, rfl⟩, Below.refl _ _⟩
  · rw [hr] at QA
    obtain ⟨A, n, c, vs, hp, hcp, hrow, hrr, hn, hm, hap, hbd⟩ := h
    obtain ⟨hc0, hf0⟩ := NetAt.cell (C := C) hp
    have hplt := (Array.getElem?_eq_some_iff.1 hp).1
    obtain ⟨j, rfl⟩ : ∃ j : Nat, i = (j : Int) := by
      unfold atOf at hr
      split at hr
      · cases hr
      · exact Int.eq_ofNat_of_zero_le (by omega)
    have hj : j < n := by
      unfold atOf at hr
      rw [if_neg (by omega), Int.toNat_natCast] at hr
      have := (List.getElem?_eq_some_iff.1 hr).1
      omega
    have hn4 : n ≤ 400 := by omega
    have hvl : vs.length = n := by have := hrow.1; omega
    have hone := Lib.hid (ones hn hrow.1 hm)
    have hsl : Hid (∀ (t : Nat) (u : Value), vs[t]? = some u → ∃ B k d, u = .slice B k d) := Lib.hid (slices hn hrow.1 hm)
    have HN := Lib.hid hn
    have HROW := Lib.hid hrow
    clear hn hm hap hrr hbd hp hrow
    go_enter Try.func14, Try.ntmps14
    go_wp2_with (go_at_call 18; refine QA.out.mono ?_; rintro e w1 ⟨A7, n7, c7, rfl, hown, hn7, rfl⟩)
    have HB := Lib.hid hown
    clear hown
    go_loopw [8, 9] (fun s x wr => ∃ (k n8 c8 : Nat) (A8 : Option Addr), k ≤ n ∧ s = .slice A8 n8 c8 ∧ x = .int .i64 k ∧ Row wr 28 w1.heap.size A8 n8 c8 1 (kept vs j k) ∧ Below w1.heap.size w1 wr) (fun _ x _ => n - (intOf x).toNat)
    case atStart => exact ⟨0, 0, 0, none, by omega, rfl, rfl, Row.nil _ _ _ _, Below.refl _ _⟩
    case round =>
      obtain ⟨k, n8, c8, A8, hk, rfl, rfl, ho, hb⟩ := hrel
      have hc1 : wr.cell? ⟨p, 0, none⟩ = some (.slice A n c) := (hb.cell (p := ⟨p, 0, none⟩) hplt).trans hc0
      have hf1 : wr.frozen? ⟨p, 0, none⟩ = false := (hb.frozen (p := ⟨p, 0, none⟩) hplt).trans hf0
      by_cases hkn : k < n
      · have hvk := kept_len vs j k (by omega)
        have hn8 : n8 ≤ k := by have := ho.1; rw [hvk] at this; split at this <;> omega
        by_cases hkj : k = j
        · subst hkj
          have hsk := kept_skip vs k (by omega)
          clear hvk
          have ho2 := Lib.hid (hsk ▸ ho : Row wr 28 w1.heap.size A8 n8 c8 1 (kept vs k (k + 1)))
          clear ho hsk
          go_wp2
          go_roundw
          case rel => exact ⟨k + 1, n8, c8, A8, by omega, rfl, by go_num, ho2.out, hb⟩
          case measure => simp [intOf]; omega
        · have hkk := kept_keep vs j k (by omega) hkj
          obtain ⟨g, u, rfl, _, hlt, hnc, hvu, hcj, _⟩ := HROW.out.at_ hkn
          have hgk : wr.cell? ⟨g, k, none⟩ = some u := (hb.cell (p := ⟨g, k, none⟩) hlt).trans hcj
          obtain ⟨B, k2, d, rfl⟩ := hsl.out k u hvu
          rw [List.getElem?_eq_getElem (by omega)] at hvu
          rw [Option.some.inj hvu] at hkk
          have hne1 : ((k : Int) == (j : Int)) = false := by simp; omega
          have hrowA := Lib.hid (ho.alloc (.cells #[.slice B k2 d] 28))
          have hcelA := Lib.hid (Row.made wr 28 0 1 _ 1 #[.slice B k2 d] [.slice B k2 d] rfl (Nat.zero_le _) rfl rfl).cells
          have hbs : w1.heap.size ≤ (wr.alloc (.cells #[.slice B k2 d] 28)).heap.size := by have := hb.size; simp; omega
          have hou2 := Lib.hid (show ∀ x ∈ [Value.slice B k2 d], x.oneCell' = true from fun x hx => by rw [List.mem_singleton.1 hx]; rfl)
          have hb8 := hb.alloc hb.size (.cells #[.slice B k2 d] 28)
          have hA8 := ho.block
          clear hvk ho
          go_wp2_with (at_builtin; refine wpList_append_row rfl (.tmp 30) (.tmp 38) rfl Try.underlying22 info28 rfl (by omega) rfl hrowA.out rfl hcelA.out hou2.out (by omega) (by omega) hbs ?_; intro A4 c4 w4 hrow4 hg4 hat4 h04)
          have hn4' : Below w1.heap.size w1 w4 := hb8.grown hg4 (Nat.le_trans hb.size (by simp)) (fun q hq => (hA8 q hq).1)
          rw [← hkk] at hrow4
          go_roundw
          case rel => exact ⟨k + 1, n8 + 1, c4, A4, by omega, rfl, by go_num, hrow4, hn4'⟩
          case measure => simp [intOf]; omega
      · obtain rfl : k = n := by omega
        have hn8 : n8 = k - 1 := by
          have := ho.1
          rw [kept_len vs j k (by omega), if_pos hj] at this
          omega
        subst hn8
        have ho2 := Lib.hid (show Row wr 28 w1.heap.size A8 (k - 1) c8 1 (vs.take j ++ vs.drop (j + 1)) from by rw [← kept_all vs j, hvl]; exact ho)
        clear ho
        go_wp2
        go_ret2
        exact reftaken hnet.out hc0 hb HB.out hn7 HROW.out HN.out hj hr ho2.out
end Go.Proofs.Ytddcfgbembjbhaa
