/- The law FrameGets, walked. -/
import Derived.Test.YtddcfgbembjbhaaDoorAll2
namespace Go.Proofs.YtddcfgbembjbhaaDoor
open Go.RowKit
set_option linter.unusedVariables false
theorem u8_inc (v : UInt8) : IntKind.u8.wrap ((v.toNat : Int) + 1) = ((v + 1).toNat : Int) := by
  rw [IntKind.wrap_u8]
  have := v.toNat_lt
  rw [UInt8.toNat_add]
  simp
theorem u8_inc' (v : UInt8) : ((v.toNat : Int) + 1) % 256 = ((v + 1).toNat : Int) := by rw [← u8_inc, IntKind.wrap_u8]
theorem grownBy_set (W : World) (a : Addr) (v : Value) : W.grownBy (W.setCell a v) (some a.block) :=
  ⟨rfl, rfl, rfl, (KeepsWalks.setCell W _ v).size, fun k _ hk => Below.heap_setCell _ _ _ k (fun e => hk (by rw [e]))⟩
theorem OwnB.past {w w' : World} {base n c : Nat} {A : Option Addr} {l : List UInt8} {row : Option Nat} (h : OwnB w base A n c l) (hg : w.grownBy w' row) (hr : ∀ r, row = some r → r < base) : OwnB w' base A n c l := by
  rcases row with _ | r
  · exact h.grown hg (by cases A <;> simp)
  · exact h.under hg (hr r rfl)
theorem Coll.past {w w' : World} {base nK cK nB cB : Nat} {AK AB : Option Addr} {ks : List UInt8} {bs : List (List UInt8)} {row : Option Nat} (h : Coll w base AK nK cK ks AB nB cB bs) (hg : w.grownBy w' row) (hr : ∀ r, row = some r → r < base) : Coll w' base AK nK cK ks AB nB cB bs := by
  rcases row with _ | r
  · exact h.later ⟨hg.os, hg.tape, hg.output, hg.size, fun k hk => hg.block k hk (by simp)⟩
  · exact h.under hg (hr r rfl)
set_option maxRecDepth 100000 in
set_option maxHeartbeats 4000000 in
theorem walkFrameGets (w : World) (hw : 0 < w.heap.size) (ht : Four w) (A : Option Addr) (n c : Nat) (l : List UInt8) (hr : BytesAt w w.heap.size A n l) (hc : n ≤ c) (hn : c ≤ 140737488351232) (i : Int) (hi : -9223372036854775808 ≤ i ∧ i ≤ 9223372036854775807) (hk : n ≤ 1048576) :
    Calls Tryd.prog 21 #[.slice A n c, .int .i64 i] w fun e w' => e = .returned (.bool true) ∧ Below w.heap.size w w' := by
  have HL := Lib.hid hr.1
  have HR := Lib.hid hr
  have HT := Lib.hid ht
  clear hr ht
  go_enter Tryd.func21, Tryd.ntmps21
  go_wp2_with fail
  refine (head03 w hw HT.out).mono ?_
  rintro e w1 ⟨rfl, b1⟩
  have hs1 := b1.size
  have e2 := OwnB.empty w1 w1.heap.size w1.heap.size rfl (Nat.le_refl _)
  have b2 := b1.alloc hs1 (.cells #[] 5)
  have c2 := (Below.refl w1.heap.size w1).alloc (Nat.le_refl _) (.cells #[] 5)
  have r2 := HR.out.below b2
  have HE2 := Lib.hid e2
  have HR2 := Lib.hid r2
  have HC2 := Lib.hid c2
  clear e2 b2 c2 r2
  go_wp2_with (at_builtin; refine wpList_append_bytes rfl (.tmp 23) (.tmp 24) rfl rfl HE2.out rfl HR2.out (by omega) (by simp) ?_; intro A3 c3 w3 ho3 hg3 hat3; simp only [Nat.zero_add, List.nil_append] at ho3; have hb3 : Below w1.heap.size w1 w3 := HC2.out.grown hg3 (by simp) (by intro k hk; simp at hk; omega); have H3 := Lib.hid ho3; have B3 := Lib.hid hb3; clear ho3 hg3 hat3 hb3)
  have b3 := b1.trans (B3.out.mono hs1)
  have hs3 := b3.size
  refine (frameGet A3 n c3 l i w3.heap.size w3 (by omega) (HT.out.below b3 hw) H3.out.bytes (Nat.le_refl _) (by omega) H3.out.cap).mono ?_
  rintro e w4 ⟨A4, n4, c4, rfl, ho4, hb4⟩
  have H4 := Lib.hid ho4
  have B4 := Lib.hid hb4
  have b4 := b3.trans (hb4.mono hs3)
  have hs4 := b4.size
  clear ho4 hb4
  go_wp2_with fail
  refine (refGet A n c l i w.heap.size w4 (HR.out.below b4) hs4 (by omega) hc).mono ?_
  rintro e w5 ⟨A5, n5, c5, rfl, ho5, hb5⟩
  have H5 := Lib.hid ho5
  have B5 := Lib.hid hb5
  have b5 := b4.trans (hb5.mono hs4)
  have hs5 := b5.size
  clear ho5 hb5
  go_wp2_with fail
  have H3' := (H3.out.later B4.out).later B5.out
  refine (frameAll A3 n c3 l w5 (by omega) (HT.out.below b5 hw) H3'.bytes (by omega) H3'.cap).mono ?_
  rintro e w6 ⟨AK, nK, cK, AB, nB, cB, rfl, hC6, hb6⟩
  have C6 := Lib.hid hC6
  have B6 := Lib.hid hb6
  have b6 := b5.trans (hb6.mono hs5)
  have hs6 := b6.size
  clear hC6 hb6 H3'
  go_wp2_with fail
  refine (refAll A n c l w.heap.size w6 (HR.out.below b6) hs6 (by omega) hc).mono ?_
  rintro e w7 ⟨AK', nK', cK', AB', nB', cB', rfl, hC7, hb7⟩
  have C7 := Lib.hid hC7
  have B7 := Lib.hid hb7
  have b7 := b6.trans (hb7.mono hs6)
  have hs7 := b7.size
  clear hC7 hb7
  have o3 := Lib.hid ((((H3.out.later B4.out).later B5.out).later B6.out).later B7.out)
  have z34 := B4.out.size
  have z45 := B5.out.size
  have z56 := B6.out.size
  have z67 := B7.out.size
  generalize getAll l i = G at *
  obtain ⟨gk, gb, gn, ge⟩ := G
  simp only at H4 H5
  have hlow : ∀ r, A3.map (·.block) = some r → w1.heap.size ≤ r ∧ r < w3.heap.size := fun r e => by
    rcases H3.out.map_form with h | ⟨g, _, h, hb, hs, _⟩
    · rw [h] at e; cases e
    · rw [h] at e; cases e; exact ⟨hb, hs⟩
  have HLOW := Lib.hid hlow
  clear hlow
  go_wp2_with fail
  go_loopw [21] (fun x wr => ∃ k : Nat, k ≤ n ∧ x = .int .i64 (k : Int) ∧ w7.grownBy wr (A3.map (·.block)) ∧ ∃ l', OwnB wr w1.heap.size A3 n c3 l') (fun x _ => n - (intOf x).toNat)
  case atStart => exact ⟨0, Nat.zero_le _, rfl, World.grownBy.refl _ _, l, o3.out⟩
  case round =>
    obtain ⟨k, hkn, rfl, hg, l', ho⟩ := hrel
    by_cases hlt : k < n
    · obtain ⟨g, hA, _, _, _⟩ := ho.form_pos (by omega)
      have HG := Lib.hid hg
      have HO := Lib.hid ho
      subst hA
      have f1 := ho.cellD k hlt
      have z1 := ho.frozen k
      have e1 := u8_inc (l'.getD k 0)
      have e2 := u8_inc' (l'.getD k 0)
      have HS := Lib.hid (ho.set k hlt (l'.getD k 0 + 1))
      generalize l'.getD k 0 + 1 = v' at *
      generalize l'.getD k 0 = v at *
      clear hg ho
      go_wp2
      go_roundw
      case rel => exact ⟨k + 1, by omega, by go_num, World.grownBy.trans HG.out (grownBy_set wr ⟨g, k, none⟩ _), _, HS.out⟩
      case measure => simp [intOf]; omega
    · obtain rfl : k = n := by omega
      have bW := (b7.grown hg hs7 (fun r e => by have := (HLOW.out r e).1; omega))
      have x4 := ((((H4.out.later B5.out).later B6.out).later B7.out).past hg (fun r e => by have := (HLOW.out r e).2; omega))
      have x5 := (((H5.out.later B6.out).later B7.out).past hg (fun r e => by have := (HLOW.out r e).2; omega))
      have x6 := ((C6.out.later B7.out).past hg (fun r e => by have := (HLOW.out r e).2; omega))
      have x7 := (C7.out.past hg (fun r e => by have := (HLOW.out r e).2; omega))
      have hcv4 := conv_str x4.bytes c4
      have hcv5 := conv_str x5.bytes c5
      have hcv6 := conv_str x6.kinds.bytes cK
      have hcv7 := conv_str x7.kinds.bytes cK'
      have hnB : nB ≤ 9223372036854775806 := by
        have h1 := x6.count.2
        have h2 := flen_count (frames l)
        have h3 := (frames_are l).2.2.1
        rw [HL.out] at h3
        simp at h1
        omega
      have QS := Lib.hid (same AB nB cB AB' nB' cB' _ wr.heap.size wr x6.lists x7.lists hnB)
      generalize str gb = s1 at *
      generalize str ((frames l).map (·.1)) = s2 at *
      clear hg ho x4 x5 x6 x7
      go_wp2_with (go_at_call 53; refine QS.out.mono ?_; rintro e w' ⟨rfl, m, rfl⟩)
      go_ret
      exact ⟨by simp, below_draws bW m⟩
end Go.Proofs.YtddcfgbembjbhaaDoor
