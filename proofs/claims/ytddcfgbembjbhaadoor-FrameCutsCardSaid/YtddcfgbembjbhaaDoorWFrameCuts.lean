/- The law FrameCuts, walked. -/
import Derived.Test.YtddcfgbembjbhaaDoorInts
import Derived.Test.YtddcfgbembjbhaaDoorOpenLists
import Derived.Deep.RegionHeld3
namespace Go.Proofs.YtddcfgbembjbhaaDoor
open Go.RowKit
set_option linter.unusedVariables false
/-- The ends of the first frames. -/
def ends (fs : List (UInt8 × List UInt8)) (k : Nat) : List Int := (List.range k).map fun j => ((flen (fs.take (j + 1)) : Nat) : Int)
theorem ends_succ (fs : List (UInt8 × List UInt8)) (k : Nat) : ends fs (k + 1) = ends fs k ++ [((flen (fs.take (k + 1)) : Nat) : Int)] := by unfold ends; rw [List.range_succ, List.map_append]; rfl
theorem ends_at (fs : List (UInt8 × List UInt8)) (k j : Nat) (h : j < k) : (ends fs k).getD j 0 = ((flen (fs.take (j + 1)) : Nat) : Int) := by
  unfold ends
  rw [List.getD_eq_getElem?_getD, List.getElem?_map, List.getElem?_range h]
  rfl
theorem take_snoc_pair {fs : List (UInt8 × List UInt8)} {k : Nat} (h : k < fs.length) : fs.take (k + 1) = fs.take k ++ [fs[k]] := by rw [List.take_succ_eq_append_getElem h]
theorem Fit.take {fs : List (UInt8 × List UInt8)} (h : Fit fs) (k : Nat) : Fit (fs.take k) := fun f hf => h f (List.mem_of_mem_take hf)
theorem Fit.snoc {fs : List (UInt8 × List UInt8)} (h : Fit fs) {f : UInt8 × List UInt8} (hf : f.2.length ≤ 8192) : Fit (fs ++ [f]) := fun g hg => by
  rcases List.mem_append.1 hg with h1 | h1
  · exact h g h1
  · simp at h1; subst h1; exact hf
theorem flen_mono (fs : List (UInt8 × List UInt8)) (k : Nat) : flen (fs.take k) ≤ flen fs := by
  have := flen_append (fs.take k) (fs.drop k)
  rw [List.take_append_drop] at this
  omega
set_option maxRecDepth 100000 in
set_option maxHeartbeats 4000000 in
theorem walkFrameCuts (w : World) (hw : 0 < w.heap.size) (ht : Four w) (A1 : Option Addr) (n1 c1 : Nat) (ks : List UInt8) (hr1 : BytesAt w w.heap.size A1 n1 ks) (hc1 : n1 ≤ c1) (hn1 : c1 ≤ 140737488351232)
    (A2 : Option Addr) (n2 c2 : Nat) (bs : List (List UInt8)) (hr2 : ListsArg w A2 n2 bs) (hc2 : n2 ≤ c2) (x : Int) (hx : 0 ≤ x ∧ x ≤ 4294967295) :
    Calls Tryd.prog 22 #[.slice A1 n1 c1, .slice A2 n2 c2, .int .u32 x] w fun e w' => e = .returned (.bool true) ∧ Below w.heap.size w w' := by
  obtain ⟨x, rfl⟩ := Int.eq_ofNat_of_zero_le hx.1
  have HL1 := Lib.hid hr1.1
  have HL2 := Lib.hid hr2.1.1
  have HR1 := Lib.hid hr1
  have HR2 := Lib.hid hr2.1
  have HZ2 := Lib.hid hr2.2
  have HT := Lib.hid ht
  clear hr1 hr2 ht
  by_cases h1 : 50 < n1
  · go_enter Tryd.func22, Tryd.ntmps22
    go_wp2_with fail
    refine (head03 w hw HT.out).mono ?_
    rintro e w1 ⟨rfl, b1⟩
    go_wp2
    go_ret
    exact ⟨by simp, b1⟩
  by_cases h2 : 50 < n2
  · go_enter Tryd.func22, Tryd.ntmps22
    go_wp2_with fail
    refine (head03 w hw HT.out).mono ?_
    rintro e w1 ⟨rfl, b1⟩
    go_wp2
    go_ret
    exact ⟨by simp, b1⟩
  have hzl : (ks.zip bs).length = min n1 n2 := by rw [List.length_zip, HL1.out, HL2.out]
  have hat : ∀ k, k < n1 → k < n2 → (ks.zip bs)[k]? = some (ks.getD k 0, bs.getD k []) := fun k hk1 hk2 => by
    rw [List.getElem?_zip_eq_some]
    constructor
    · rw [List.getD_eq_getElem?_getD, List.getElem?_eq_getElem (by rw [HL1.out]; exact hk1)]; rfl
    · show _ = some (bs.getD k [])
      rw [List.getD_eq_getElem?_getD, List.getElem?_eq_getElem (by rw [HL2.out]; exact hk2)]; rfl
  generalize ks.zip bs = fs at *
  have HZL := Lib.hid hzl
  have HAT := Lib.hid hat
  clear hzl hat
  go_enter Tryd.func22, Tryd.ntmps22
  go_wp2_with fail
  refine (head03 w hw HT.out).mono ?_
  rintro e w1 ⟨rfl, b1⟩
  have hs1 := b1.size
  go_wp2_with fail
  go_loopw [8, 9, 10] (fun x8 x9 x10 wr => ∃ (k : Nat) (A8 : Option Addr) (n8 c8 : Nat) (A9 : Option Addr) (c9 : Nat), k ≤ n1 ∧ k ≤ n2 ∧ n8 ≤ 8200 * k ∧ x8 = .slice A8 n8 c8 ∧ x9 = .slice A9 k c9 ∧ x10 = .int .i64 (k : Int) ∧ Fit (fs.take k) ∧
      OwnB wr w1.heap.size A8 n8 c8 (fcat (fs.take k)) ∧ OwnI wr w1.heap.size A9 k c9 (ends fs k) ∧ Below w1.heap.size w1 wr) (fun _ _ x10 _ => n1 - (intOf x10).toNat)
  case atStart => exact ⟨0, none, 0, 0, none, 0, by omega, by omega, by omega, rfl, rfl, rfl, fun f hf => by simp at hf, OwnB.nil _ _, OwnI.nil _ _, Below.refl _ _⟩
  case round =>
    obtain ⟨k, A8, n8, c8, A9, c9, hk1, hk2, hn8, rfl, rfl, rfl, hfit, ho8, ho9, hb⟩ := hrel
    have hsz := hb.size
    have bw := b1.trans (hb.mono hs1)
    by_cases hlt : k < n1 ∧ k < n2
    · obtain ⟨q1, q2⟩ := hlt
      have bwl := HR1.out.below bw
      have f1 := HAT.out k q1 q2
      obtain ⟨g1, o1, rfl, hg1, hc1b⟩ := HR1.out.2 (by omega)
      obtain ⟨g2, o2, A3, n3, c3, rfl, hg2, hc2b, hl3⟩ := HR2.out.2 k (bs.getD k []) (by rw [List.getD_eq_getElem?_getD, List.getElem?_eq_getElem (by rw [HL2.out]; exact q2)]; rfl)
      have hk3 : wr.cell? ⟨g1, o1 + k, none⟩ = some (.int .u8 ((ks.getD k 0).toNat : Int)) := by
        rw [bw.cell (p := ⟨g1, o1 + k, none⟩) hg1, hc1b k (by rw [HL1.out]; exact q1), List.getD_eq_getElem?_getD, List.getElem?_eq_getElem (by rw [HL1.out]; exact q1)]
        rfl
      have hb3 : wr.cell? ⟨g2, o2 + k, none⟩ = some (.slice A3 n3 c3) := by rw [bw.cell (p := ⟨g2, o2 + k, none⟩) hg2]; exact hc2b
      have hz3 : n3 ≤ 140737488351232 := by
        rw [← hl3.1]
        refine HZ2.out _ ?_
        rw [List.getD_eq_getElem?_getD, List.getElem?_eq_getElem (by rw [HL2.out]; exact q2)]
        exact List.getElem_mem _
      have QP := Lib.hid (framePut (ks.getD k 0) A3 n3 c3 (bs.getD k []) wr.heap.size wr.drew (show 0 < wr.heap.size by omega) (HT.out.below bw.drew hw) ((hl3.below bw).more bw.size) (Nat.le_refl _) hz3)
      have hl3l := hl3.1
      generalize ks.getD k 0 = kd at *
      generalize bs.getD k [] = bd at *
      have H8 := Lib.hid ho8
      have H9 := Lib.hid ho9
      have HB := Lib.hid hb
      have HBW := Lib.hid bw
      have HF := Lib.hid hfit
      have HA := Lib.hid f1
      clear ho8 ho9 hb bw hfit bwl hc1b hc2b f1 hl3
      go_wp2_with fail
      have HG1 : Hid (g1 < wr.drew.heap.size) := Lib.hid (show g1 < wr.heap.size by omega)
      have HG2 : Hid (g2 < wr.drew.heap.size) := Lib.hid (show g2 < wr.heap.size by omega)
      have hk3' : wr.drew.cell? ⟨g1, o1 + k, none⟩ = some (.int .u8 (kd.toNat : Int)) := hk3
      have hb3' : wr.drew.cell? ⟨g2, o2 + k, none⟩ = some (.slice A3 n3 c3) := hb3
      go_region_held3 (fun w' => w'.cell? ⟨g1, o1 + k, none⟩ = some (.int .u8 (kd.toNat : Int)) ∧ w'.cell? ⟨g2, o2 + k, none⟩ = some (.slice A3 n3 c3))
        ((first | assumption | trivial))
        ((go_at_call 40; refine QP.out.mono ?_; clear QP; rintro e w2 ⟨A11, n11, c11, rfl, ho11, hb11⟩; have hk4 : w2.cell? ⟨g1, o1 + k, none⟩ = some (.int .u8 (kd.toNat : Int)) := (hb11.cell (p := ⟨g1, o1 + k, none⟩) HG1.out).trans hk3'; have hb4 : w2.cell? ⟨g2, o2 + k, none⟩ = some (.slice A3 n3 c3) := (hb11.cell (p := ⟨g2, o2 + k, none⟩) HG2.out).trans hb3'))
      have hb11' : Below wr.heap.size wr w2 := Below.trans ((Below.refl wr.heap.size wr).drew) hb11
      have hz2 : wr.heap.size ≤ w2.heap.size := hb11'.size
      have b2 := HBW.out.trans (hb11'.mono HBW.out.size)
      have hsw := HBW.out.size
      by_cases h8 : 8192 < bd.length
      · have hE : putE bd = 2 := by unfold putE; rw [if_pos h8]
        rw [hE]
        go_wp2
        go_ret
        exact ⟨by simp, b2⟩
      · have hE : putE bd = 0 := by unfold putE; rw [if_neg h8]
        have hP : putB kd bd = fput kd bd := by unfold putB; rw [if_neg h8]
        rw [hE]
        have hn11 : n11 = bd.length + 8 := by rw [← ho11.len, hP, fput_len]
        rw [hP] at ho11
        have hlt : k < fs.length := by rw [HZL.out]; omega
        have hfk : fs[k] = (kd, bd) := by have := HA.out; rw [List.getElem?_eq_getElem hlt] at this; exact Option.some.inj this
        have hsn := take_snoc_pair hlt
        rw [hfk] at hsn
        have hfit' : Fit (fs.take (k + 1)) := by rw [hsn]; exact HF.out.snoc (by show bd.length ≤ 8192; omega)
        have hcat : fcat (fs.take (k + 1)) = fcat (fs.take k) ++ fput kd bd := by rw [hsn, fcat_append, fcat_cons, fcat_nil, List.append_nil]
        have h8' := H8.out.later hb11'
        have h9' := H9.out.later hb11'
        have hnf : n8 + n11 = flen (fs.take (k + 1)) := by
          rw [← fcat_len, hcat, List.length_append, H8.out.len, fput_len, hn11]
        have H8' := Lib.hid h8'
        have H9' := Lib.hid h9'
        have H11 := Lib.hid ho11.bytes
        have HC := Lib.hid hcat
        have HF' := Lib.hid hfit'
        have HN := Lib.hid hnf
        have HB2 := Lib.hid (HB.out.trans (hb11'.mono HB.out.size))
        have HBW2 := Lib.hid b2
        have hs2 := HB2.out.size
        have hn11' : n11 ≤ 8200 := by omega
        clear h8' h9' ho11 hb11 hb11' hcat hfit' hnf hsn hn11 b2
        go_wp2_with (first
          | (at_builtin; refine wpList_append_bytes rfl (.tmp 57) (.tmp 58) rfl rfl H8'.out rfl H11.out (by omega) hs2 ?_; intro A13 c13 w13 ho13 hg13 hat13; have H9a := Lib.hid (H9'.out.beside H8'.out hg13); have B13 := Lib.hid (below_grown HB2.out hs2 H8'.out hg13); have H13 := Lib.hid ho13; have hs13 := B13.out.size; clear ho13 hg13 hat13)
          | (at_builtin; refine wpList_append_int rfl (.tmp 60) (.tmp 63) rfl rfl (H9a.out.alloc _) rfl (Boxed.new w13 3 _).cell (by omega) (by simp; omega) ?_; intro A14 c14 w14 ho14 hg14; have H13a := Lib.hid ((H13.out.alloc _).beside (H9a.out.alloc _) hg14); have B14 := Lib.hid (below_grownI (B13.out.alloc hs13 _) (by simp; omega) (H9a.out.alloc _) hg14); have H14 := Lib.hid ho14; clear ho14 hg14))
        go_roundw
        case rel => exact ⟨k + 1, A13, n8 + n11, c13, A14, c14, by omega, by omega, by omega, rfl, rfl, by go_num, HF'.out, by rw [HC.out]; exact H13a.out, by rw [ends_succ, ← HN.out, Int.natCast_add]; exact H14.out, B14.out⟩
        case measure => simp [intOf]; omega
    · have hk : fs.take k = fs := List.take_of_length_le (by rw [HZL.out]; omega)
      have hkl : fs.length = k := by rw [HZL.out]; omega
      rw [hk] at hfit ho8
      have hn8f : n8 = flen fs := by rw [← ho8.len, fcat_len]
      have hb8 : n8 ≤ 410000 := by omega
      obtain ⟨a, ha⟩ : ∃ a, a = x % (n8 + 1) := ⟨_, rfl⟩
      have haN : a ≤ n8 := by rw [ha]; have := Nat.mod_lt x (y := n8 + 1) (by omega); omega
      have haI : (x : Int) % ((n8 : Int) + 1) = (a : Int) := by rw [ha]; simp
      have hac : a ≤ c8 := Nat.le_trans haN ho8.cap
      have hA8 : Option.map (fun x => x.add 0) A8 = A8 := by
        rcases ho8.form with ⟨rfl, _⟩ | ⟨g, rfl, _⟩
        · rfl
        · show some ((⟨g, 0, none⟩ : Addr).add 0) = _
          rw [add_litD]
      have hif : (if c8 = 0 then A8 else A8) = A8 := by split <;> rfl
      have haT : Int.tmod (x : Int) ((n8 : Int) + 1) = (a : Int) := by rw [Int.tmod_eq_emod_of_nonneg (by omega)]; exact haI
      have hwu : IntKind.u32.wrap ((n8 : Int) + 1) = (n8 : Int) + 1 := IntWalk.u32_in _ (by omega)
      have hwa : IntKind.u32.wrap (a : Int) = (a : Int) := IntWalk.u32_in _ (by omega)
      have hwa' : IntKind.i64.wrap (a : Int) = (a : Int) := IntWalk.i64_in _ (by omega)
      have H8 := Lib.hid ho8
      have H9 := Lib.hid ho9
      have HB := Lib.hid hb
      have HBW := Lib.hid bw
      have HF := Lib.hid hfit
      have HNF := Lib.hid hn8f
      have HKL := Lib.hid hkl
      have hsw := bw.size
      clear ho8 ho9 hb bw hfit hn8f hk ha hkl
      have q2 : k < n1 → ¬ k < n2 := fun h h' => hlt ⟨h, h'⟩
      by_cases q1 : k < n1
      all_goals (try (have q3 := q2 q1))
      all_goals (
        go_wp2_with fail
        refine (frameAll A8 a c8 ((fcat fs).take a) wr (by omega) (HT.out.below HBW.out hw) (H8.out.bytes.take haN) (by omega) hac).mono ?_
        rintro e w2 ⟨AK, nK, cK, AB, nB, cB, rfl, hC2, hb2⟩
        have b2 := HBW.out.trans (hb2.mono hsw)
        have hs2 := b2.size
        have C2 := Lib.hid hC2
        have HB2 := Lib.hid b2
        have H9' := Lib.hid (H9.out.later hb2)
        clear hC2 hb2 b2
        generalize hFR : frames ((fcat fs).take a) = fr at *
        have HFR := Lib.hid hFR
        clear hFR
        go_wp2_with fail
        go_loopw [17, 18] (fun x17 x18 wr' => ∃ m : Nat, m ≤ k ∧ x17 = .int .i64 (m : Int) ∧ x18 = .int .i64 ((flen (fs.take m) : Nat) : Int) ∧ flen (fs.take m) ≤ a ∧ w2 = wr') (fun x17 _ _ => k - (intOf x17).toNat)
        case atStart => exact ⟨0, Nat.zero_le _, rfl, rfl, Nat.zero_le _, rfl⟩
        case round =>
          obtain ⟨m, hmk, rfl, rfl, hma, rfl⟩ := hrel
          obtain ⟨F1, hF1⟩ : ∃ F1, F1 = flen (fs.take (m + 1)) := ⟨_, rfl⟩
          have HF1 := Lib.hid hF1
          by_cases hmore : m < k ∧ F1 ≤ a
          · obtain ⟨hm, hle⟩ := hmore
            obtain ⟨g9, rfl, _, _, _⟩ := H9'.out.form_pos (by omega)
            have f9 := H9'.out.cellD m hm
            rw [ends_at fs k m hm, ← hF1] at f9
            clear hF1
            go_wp2
            go_roundw
            case rel => exact ⟨m + 1, by omega, by go_num, by rw [HF1.out], by rw [← HF1.out]; exact hle, by trivial⟩
            case measure => simp [intOf]; omega
          · have hend : m = fs.length ∧ a = flen fs ∨ m < fs.length ∧ a < flen (fs.take (m + 1)) := by
              rw [HKL.out, ← hF1]
              by_cases hm : m < k
              · exact .inr ⟨hm, Nat.lt_of_not_le fun h => hmore ⟨hm, h⟩⟩
              · have e : m = k := by omega
                refine .inl ⟨e, ?_⟩
                have h2 : fs.take m = fs := List.take_of_length_le (by rw [HKL.out]; omega)
                have h3 := HNF.out
                rw [h2] at hma
                omega
            have hfr : fr = fs.take m := by rw [← HFR.out]; exact frames_cuts fs a m HF.out (by rw [HKL.out]; exact hmk) hma hend
            subst hfr
            have hcn : m = nK ∧ m = nB := by
              have h1 := C2.out.count
              rw [List.length_map, List.length_map, List.length_take, HKL.out] at h1
              omega
            obtain ⟨rfl, rfl⟩ := hcn
            clear hend hF1
            have hF1 : m < k → ∃ g9, A9 = some ⟨g9, 0, none⟩ ∧ w2.cell? ⟨g9, m, none⟩ = some (.int .i64 (F1 : Int)) := fun hm => by
              obtain ⟨g9, e, _, _, _⟩ := H9'.out.form_pos (by omega)
              subst e
              have f9 := H9'.out.cellD m hm
              rw [ends_at fs k m hm, ← HF1.out] at f9
              exact ⟨g9, rfl, f9⟩
            generalize flen (fs.take m) = F at *
            have HAM := Lib.hid hmk
            by_cases hm : m < k
            all_goals (try (obtain ⟨g9, rfl, f9⟩ := hF1 hm; have hle : ¬ F1 ≤ a := fun h => hmore ⟨hm, h⟩))
            all_goals (
              clear hF1 hmore
              go_wp2
              go_loopw [19] (fun x19 wr' => ∃ j : Nat, j ≤ m ∧ x19 = .int .i64 (j : Int) ∧ Below w2.heap.size w2 wr') (fun x19 _ => m - (intOf x19).toNat)
              case atStart => exact ⟨0, Nat.zero_le _, rfl, Below.refl _ _⟩
              case round =>
                obtain ⟨j, hjm, rfl, hb⟩ := hrel
                by_cases hj : j < m
                · have bw := HB2.out.trans (hb.mono hs2)
                  have hj1 : j < n1 := by omega
                  have hj2 : j < n2 := by omega
                  have hfj := HAT.out j hj1 hj2
                  have eK : ((fs.take m).map (·.1)).getD j 0 = ks.getD j 0 := by
                    rw [List.getD_eq_getElem?_getD, List.getElem?_map, List.getElem?_take_of_lt hj, hfj]; rfl
                  have eB : ((fs.take m).map (·.2))[j]? = some (bs.getD j []) := by rw [List.getElem?_map, List.getElem?_take_of_lt hj, hfj]; rfl
                  obtain ⟨gK, rfl, _, _, _⟩ := C2.out.kinds.form_pos (by omega)
                  have fK := (C2.out.kinds.later hb).cellD j hj
                  rw [eK] at fK
                  obtain ⟨gB, oB, A5, n5, c5, rfl, hgB, hcB, hl5⟩ := (C2.out.later hb).lists.2 j _ eB
                  obtain ⟨g1, o1, rfl, hg1, hc1b⟩ := HR1.out.2 (by omega)
                  obtain ⟨g2, o2, A3, n3, c3, rfl, hg2, hc2b, hl3⟩ := HR2.out.2 j (bs.getD j []) (by rw [List.getD_eq_getElem?_getD, List.getElem?_eq_getElem (by rw [HL2.out]; exact hj2)]; rfl)
                  have hk3 : wr.cell? ⟨g1, o1 + j, none⟩ = some (.int .u8 ((ks.getD j 0).toNat : Int)) := by
                    rw [bw.cell (p := ⟨g1, o1 + j, none⟩) hg1, hc1b j (by rw [HL1.out]; exact hj1), List.getD_eq_getElem?_getD, List.getElem?_eq_getElem (by rw [HL1.out]; exact hj1)]
                    rfl
                  have hb3 : wr.cell? ⟨g2, o2 + j, none⟩ = some (.slice A3 n3 c3) := by rw [bw.cell (p := ⟨g2, o2 + j, none⟩) hg2]; exact hc2b
                  have hcvA := conv_strs hl5 c5
                  have hcvB := conv_strs (hl3.below bw) c3
                  have fK' : wr.cell? ⟨gK, j, none⟩ = some (.int .u8 ((ks.getD j 0).toNat : Int)) := fK
                  generalize ks.getD j 0 = kd at *
                  generalize str (bs.getD j []) = sd at *
                  have HB3 := Lib.hid hb
                  clear hb bw hfj eK eB fK hl5 hl3 hc1b hc2b
                  go_wp2
                  go_quiet (fail)
                  go_wp2
                  go_roundw
                  case rel => exact ⟨j + 1, by omega, by go_num, by first | exact below_draws HB3.out _ | exact HB3.out⟩
                  case measure => simp [intOf]; omega
                · obtain rfl : j = m := by omega
                  have HB3 := Lib.hid (HB2.out.trans (hb.mono hs2))
                  clear hb
                  go_wp2
                  go_ret
                  exact ⟨by simp, HB3.out⟩))
end Go.Proofs.YtddcfgbembjbhaaDoor
