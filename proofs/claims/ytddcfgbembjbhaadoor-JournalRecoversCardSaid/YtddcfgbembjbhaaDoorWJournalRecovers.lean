/- The law JournalRecovers, walked. -/
import Derived.Test.YtddcfgbembjbhaaDoorJour15
import Derived.Test.YtddcfgbembjbhaaDoorOpenLists
import Derived.Deep.RegionHeld3
import Derived.Lib.MinMax
import Derived.Deep.DeepCutAuto
import Derived.Deep.CutBlock
namespace Go.Proofs.YtddcfgbembjbhaaDoor
open Go.RowKit
set_option linter.unusedVariables false
set_option linter.unusedSimpArgs false
section
variable {P : Program} {ops : Array Oper} {Q : Exit → Act → World → Prop} {md : Region.Mode} {S : World → Prop} {st : List Nat}
theorem wpAnyG_take {i : Nat} {oi : Oper} {v : Value} {d : Option Tmp} (hd : oi.dst = d) {fuel : Nat} {listed : Array Bool} {a : Act} {w : World} (hi : ops[i]? = some oi)
    (hs : Region.noSelect ops = true) (hf : Region.free md ops listed i = true) (hr : (Region.ready md ops listed).contains i = true) (hwt : waitsFor md ops listed st i = true) (hcl : closedB md ops listed = true)
    (hQ : ∀ c a w, Q (.panic c) (a.put d v) w → Q (.panic c) a w) (hg : Region.wanted oi (yielded ops a.tmps) = true) (hy : ∀ w, S w → (execOp a.eval oi).run P w = .ok (.value v) w) (hS : S w)
    (h : wpAnyL P md ops Q S st fuel (listed.setIfInBounds i true) (a.put d v) w) : wpAnyL P md ops Q S st (fuel + 1) listed a w := by
  subst hd
  exact wpAnyL_first listed S hi hs hQ (fun _ j w' hc hL hu hj h => h (not_store hwt hL hc hu hj)) (.inr fun _ h => h) fuel listed a w (closed_of hcl) (fun _ h => h) (Region.free_spec hi hf) (by simpa using hr) (.inl ⟨hg, hy⟩) hS h
theorem wpAnyG_one {i : Nat} {o : Oper} {fuel : Nat} {listed : Array Bool} {a : Act} {w : World} (hr : Region.ready md ops listed = [i]) (ho : ops[i]? = some o) (hg : Region.wanted o (yielded ops a.tmps) = true)
    (h : o.wp P a w (fun a' w' => (i ∉ st → S w') ∧ wpAnyL P md ops Q S st fuel (listed.setIfInBounds i true) a' w') Q) : wpAnyL P md ops Q S st (fuel + 1) listed a w :=
  ⟨fun h0 => (by rw [hr] at h0; cases h0), fun j hj => by
    rw [hr] at hj
    obtain rfl : j = i := by simpa using hj
    unfold wpOp
    simp only [ho, hg, if_true]
    exact .inl h⟩
theorem region_L {id : Nat} {a : Act} {w : World} (S : World → Prop) (st : List Nat) (hm : P.follows .mixedOrders = true)
    (h : wpAnyL P .any ops Q S st ops.size (Array.replicate ops.size false) a w.drew) : (Code.region id ops true).wp P Q a w := wp_region_any hm (wpAny_of_L _ _ _ _ h)
end
set_option maxRecDepth 100000 in
set_option maxHeartbeats 8000000 in
theorem walkJournalRecovers (w : World) (hw : 0 < w.heap.size) (ht : Four w) (A1 : Option Addr) (n1 c1 : Nat) (ks : List UInt8) (hr1 : BytesAt w w.heap.size A1 n1 ks) (hc1 : n1 ≤ c1) (hn1 : c1 ≤ 140737488351232)
    (A2 : Option Addr) (n2 c2 : Nat) (bs : List (List UInt8)) (hr2 : ListsArg w A2 n2 bs) (hc2 : n2 ≤ c2) (x : Int) (hx : 0 ≤ x ∧ x ≤ 255) (keep : Int) (hkp : -9223372036854775808 ≤ keep ∧ keep ≤ 9223372036854775807) :
    Calls Tryd.prog 25 #[.slice A1 n1 c1, .slice A2 n2 c2, .int .u8 x, .int .i64 keep] w fun e w' => e = .returned (.bool true) ∧ Below w.heap.size w w' := by
  obtain ⟨x, rfl⟩ := Int.eq_ofNat_of_zero_le hx.1
  have HL1 := Lib.hid hr1.1
  have HL2 := Lib.hid hr2.1.1
  have HR1 := Lib.hid hr1
  have HR2 := Lib.hid hr2.1
  have HZ2 := Lib.hid hr2.2
  have HT := Lib.hid ht
  clear hr1 hr2 ht
  obtain ⟨N, hN⟩ : ∃ N, N = min n1 n2 := ⟨_, rfl⟩
  have hNI : min (n1 : Int) (n2 : Int) = (N : Int) := by omega
  have hN1 : N ≤ n1 := by omega
  have hN2 : N ≤ n2 := by omega
  have HNM := Lib.hid hN
  clear hN
  go_enter Tryd.func25, Tryd.ntmps25
  go_wp2_with fail
  refine (head06 w hw HT.out).mono ?_
  rintro e w0 ⟨rfl, b0⟩
  have HB0 := Lib.hid b0
  have hs0 := b0.size
  clear b0
  go_wp2_with fail
  refine (jNew w0).mono ?_
  rintro e w1 ⟨rfl, hJ1, b1⟩
  have HB1 := Lib.hid (HB0.out.trans (b1.mono hs0))
  have HJ1 := Lib.hid hJ1
  have hs1 := HB1.out.size
  have hC1 : ∀ q, q = w0.heap.size → w.heap.size ≤ q := fun q e => by omega
  clear hJ1 b1 HB0
  by_cases h40 : 40 < N
  · have f40 : decide ((N : Int) > 40) = true := by simp; omega
    have g40 : decide ((40 : Int) < (N : Int)) = true := by simp; omega
    go_wp2
    go_ret
    exact ⟨by simp, HB1.out⟩
  have f40 : decide ((N : Int) > 40) = false := by simp; omega
  have g40 : decide ((40 : Int) < (N : Int)) = false := by simp; omega
  obtain ⟨a, ha⟩ : ∃ a, a = x % (N + 1) := ⟨_, rfl⟩
  have haN : a ≤ N := by rw [ha]; have := Nat.mod_lt x (y := N + 1) (by omega); omega
  have haI : (x : Int) % ((N : Int) + 1) = (a : Int) := by rw [ha]; simp
  have haT : Int.tmod (x : Int) ((N : Int) + 1) = (a : Int) := by rw [Int.tmod_eq_emod_of_nonneg (by omega)]; exact haI
  have hwx : IntKind.i64.wrap (x : Int) = (x : Int) := IntWalk.i64_in _ (by omega)
  have hwu : IntKind.i64.wrap ((N : Int) + 1) = (N : Int) + 1 := IntWalk.i64_in _ (by omega)
  have hwa : IntKind.i64.wrap (a : Int) = (a : Int) := IntWalk.i64_in _ (by omega)
  clear ha
  -- the frames: those that are synced, the others
  have hzl : (ks.zip bs).length = N := by rw [List.length_zip, HL1.out, HL2.out]; exact HNM.out.symm
  have hat : ∀ k, k < N → (ks.zip bs)[k]? = some (ks.getD k 0, bs.getD k []) := fun k hk => by
    rw [List.getElem?_zip_eq_some]
    constructor
    · rw [List.getD_eq_getElem?_getD, List.getElem?_eq_getElem (by rw [HL1.out]; omega)]; rfl
    · show _ = some (bs.getD k [])
      rw [List.getD_eq_getElem?_getD, List.getElem?_eq_getElem (by rw [HL2.out]; omega)]; rfl
  obtain ⟨hs, hhs⟩ : ∃ hs, hs = (ks.zip bs).take a := ⟨_, rfl⟩
  obtain ⟨gs, hgs⟩ : ∃ gs, gs = (ks.zip bs).drop a := ⟨_, rfl⟩
  have hcatF : ks.zip bs = hs ++ gs := by rw [hhs, hgs, List.take_append_drop]
  have hhl : hs.length = a := by rw [hhs, List.length_take]; omega
  have hgl : gs.length = N - a := by rw [hgs, List.length_drop]; omega
  have HAT := Lib.hid (show ∀ k, k < N → (hs ++ gs)[k]? = some (ks.getD k 0, bs.getD k []) from fun k hk => by rw [← hcatF]; exact hat k hk)
  have HHL := Lib.hid hhl
  have HGL := Lib.hid hgl
  clear hzl hat hhs hgs hcatF hhl hgl
  have HREC := Lib.hid (show Rec w w0.heap.size (fun q => q = w0.heap.size) (recJ hs gs 0) none 0 0 [] none 0 0 [] none 0 0 [] w1 from Rec.none w w1 _ _ _ (by rw [rec_start]; exact HJ1.out) hC1 HB1.out)
  clear HJ1 hC1 hs0 HB1
  generalize w0.heap.size = g at *
  go_wp2_with fail
  clear haT haI hwx hwu hwa f40 g40 hNI
  go_loopw [13, 14, 15, 16] (fun x13 x14 x15 x16 wr => ∃ (i : Nat) (A13 : Option Addr) (n13 c13 : Nat) (A14 : Option Addr) (n14 c14 : Nat) (A15 : Option Addr) (c15 : Nat) (C : Nat → Prop), i ≤ N ∧ n13 ≤ 8200 * i ∧ n14 ≤ 8200 * i ∧ x13 = .slice A13 n13 c13 ∧ x14 = .slice A14 n14 c14 ∧ x15 = .slice A15 (i - a) c15 ∧ x16 = .int .i64 (i : Int) ∧
      Fit (hs.take i) ∧ Fit (gs.take (i - a)) ∧ Rec w g C (recJ hs gs i) A13 n13 c13 (fcat (gs.take (i - a))) A14 n14 c14 (fcat (hs.take i)) A15 (i - a) c15 (recEnds gs (i - a)) wr) (fun _ _ _ x16 _ => N - (intOf x16).toNat)
  case atStart => exact ⟨0, none, 0, 0, none, 0, 0, none, 0, _, Nat.zero_le _, Nat.zero_le _, Nat.zero_le _, rfl, rfl, by rw [Nat.zero_sub], rfl, fun f hf => by simp at hf, fun f hf => by simp at hf, by
    rw [Nat.zero_sub, List.take_zero, List.take_zero, fcat_nil]
    exact HREC.out⟩
  case round =>
    obtain ⟨i, A13, n13, c13, A14, n14, c14, A15, c15, C, hi, hn13, hn14, rfl, rfl, rfl, rfl, hf1, hf2, hR⟩ := hrel
    obtain ⟨wo, rfl⟩ : ∃ wo, wo = wr := ⟨_, rfl⟩
    have hbw := hR.size
    by_cases hiN : i < N
    · have hfi := HAT.out i hiN
      obtain ⟨g1, o1, rfl, hg1, hc1b⟩ := HR1.out.2 (by omega)
      obtain ⟨g2, o2, A3, n3, c3, rfl, hg2, hc2b, hl3⟩ := HR2.out.2 i (bs.getD i []) (by rw [List.getD_eq_getElem?_getD, List.getElem?_eq_getElem (by rw [HL2.out]; omega)]; rfl)
      have hk3 : w.cell? ⟨g1, o1 + i, none⟩ = some (.int .u8 ((ks.getD i 0).toNat : Int)) := by
        rw [hc1b i (by rw [HL1.out]; omega), List.getD_eq_getElem?_getD, List.getElem?_eq_getElem (by rw [HL1.out]; omega)]
        rfl
      have hz3 : n3 ≤ 140737488351232 := by
        rw [← hl3.1]
        refine HZ2.out _ ?_
        rw [List.getD_eq_getElem?_getD, List.getElem?_eq_getElem (by rw [HL2.out]; omega)]
        exact List.getElem_mem _
      generalize ks.getD i 0 = kd at *
      generalize bs.getD i [] = bd at *
      have HFK := Lib.hid (show ∀ W, Below w.heap.size w W → W.cell? ⟨g1, o1 + i, none⟩ = some (.int .u8 (kd.toNat : Int)) from fun W hb => (hb.cell (p := ⟨g1, o1 + i, none⟩) hg1).trans hk3)
      have HFB := Lib.hid (show ∀ W, Below w.heap.size w W → W.cell? ⟨g2, o2 + i, none⟩ = some (.slice A3 n3 c3) from fun W hb => (hb.cell (p := ⟨g2, o2 + i, none⟩) hg2).trans hc2b)
      have HY := Lib.hid hl3
      have HFI := Lib.hid hfi
      have HF1 := Lib.hid hf1
      have HF2 := Lib.hid hf2
      have h3l := hl3.1
      have HSZ := Lib.hid (show (recS hs gs i).kept.length + (recS hs gs i).rest.length ≤ 656000 by
        rw [recS_size]
        have h1 := hR.t.len
        have h2 := hR.l.len
        rw [fcat_len] at h1 h2
        rw [HHL.out]
        omega)
      have hsr : (recS hs gs i).rest.length ≤ 140737488300000 := by have := HSZ.out; omega
      have hsf : -9223372036854775808 ≤ (recS hs gs i).fuse ∧ (recS hs gs i).fuse ≤ 9223372036854775807 := by rw [(recS_fuse hs gs i).1]; decide
      have HSF := Lib.hid hsf
      clear hc1b hk3 hc2b hl3 hfi hf1 hf2 hsf
      have hq0 : (0 : Int) ≤ (i : Int) := by omega
      have hq1 : (i : Int) < (n1 : Int) := by omega
      have hq2 : (i : Int) < (n2 : Int) := by omega
      rcases Nat.lt_trichotomy i a with hia | hia | hia
      · as_aux_lemma =>
          have HRS := Lib.hid hR
          rw [rec_skip hs gs i (by rw [HHL.out]; omega)] at HRS
          have hneq : ((i : Int) == (a : Int)) = false := by simp; omega
          obtain ⟨w5, hw5⟩ : ∃ w5, w5 = wo := ⟨_, rfl⟩
          obtain ⟨C5, hC5⟩ : ∃ C5, C5 = C := ⟨_, rfl⟩
          rw [← hw5, ← hC5] at HRS
          have hs5 : wo.heap.size ≤ w5.heap.size := by rw [hw5]; exact Nat.le_refl _
          clear hR hC5
          rw [← hw5]
          clear hw5
          have fk1 : w5.drew.cell? ⟨g1, o1 + i, none⟩ = some (.int .u8 (kd.toNat : Int)) := HFK.out _ HRS.out.bl.drew
          have fk2 : w5.drew.cell? ⟨g2, o2 + i, none⟩ = some (.slice A3 n3 c3) := HFB.out _ HRS.out.bl.drew
          have hbw5 := HRS.out.size
          have HRD := Lib.hid (HRS.out.later (Below.refl _ w5).drew)
          have QA := Lib.hid (jAppend w5.drew (show 0 < w5.heap.size by omega) (HT.out.below HRS.out.bl.drew hw) g C5 _ HRD.out.j HSF.out kd A3 n3 c3 w.heap.size bd (HY.out.below HRS.out.bl.drew) hbw5 hz3 hsr)
          go_wp2_with fail
          go_region_held3 (fun w' => w'.cell? ⟨g1, o1 + i, none⟩ = some (.int .u8 (kd.toNat : Int)) ∧ w'.cell? ⟨g2, o2 + i, none⟩ = some (.slice A3 n3 c3))
            ((first | assumption | trivial))
            ((go_at_call 56; refine QA.out.mono ?_; clear QA; rintro e w6 ⟨rfl, hJ6, hK6⟩; have HR6 := Lib.hid (HRD.out.turn hJ6 hK6); have fk3 : w6.cell? ⟨g1, o1 + i, none⟩ = some (.int .u8 (kd.toNat : Int)) := HFK.out _ HR6.out.bl; have fk4 : w6.cell? ⟨g2, o2 + i, none⟩ = some (.slice A3 n3 c3) := HFB.out _ HR6.out.bl))
          have hs6 := hK6.size
          have hs65 : w5.heap.size ≤ w6.heap.size := hs6
          clear hJ6 hK6 HRD HRS fk1 fk2 fk3 fk4 hs6
          by_cases h8 : 8192 < bd.length
          · rw [rec_much hs gs i kd bd h8]
            have HE := Lib.hid HR6.out.bl
            clear HR6 h8 h3l
            go_wp2
            go_ret
            exact ⟨by simp, HE.out⟩
          rw [rec_append hs gs i kd bd HFI.out (by omega)] at HR6 ⊢
          generalize since w5.drew C5 w6 = C6 at *
          have hE : putE bd = 0 := by unfold putE; rw [if_neg h8]
          have hP : putB kd bd = fput kd bd := by unfold putB; rw [if_neg h8]
          have hbw6 := HR6.out.size
          have fk1 : w6.drew.cell? ⟨g1, o1 + i, none⟩ = some (.int .u8 (kd.toNat : Int)) := HFK.out _ HR6.out.bl.drew
          have fk2 : w6.drew.cell? ⟨g2, o2 + i, none⟩ = some (.slice A3 n3 c3) := HFB.out _ HR6.out.bl.drew
          have QP := refPut kd A3 n3 c3 bd w.heap.size w6.drew (HY.out.below HR6.out.bl.drew) hbw6 hz3
          unfold Put at QP
          rw [hE, hP] at QP
          have HQP := Lib.hid QP
          have HRD := Lib.hid (HR6.out.later (Below.refl _ w6).drew)
          clear QP hE hP
          go_wp2_with fail
          go_region_held3 (fun w' => w'.cell? ⟨g1, o1 + i, none⟩ = some (.int .u8 (kd.toNat : Int)) ∧ w'.cell? ⟨g2, o2 + i, none⟩ = some (.slice A3 n3 c3))
            ((first | assumption | trivial))
            ((go_at_call 41; refine HQP.out.mono ?_; clear HQP; rintro e w7 ⟨A18, n18, c18, rfl, ho18, hb18⟩; have HR7 := Lib.hid (HRD.out.later hb18); have fk3 : w7.cell? ⟨g1, o1 + i, none⟩ = some (.int .u8 (kd.toNat : Int)) := HFK.out _ HR7.out.bl; have fk4 : w7.cell? ⟨g2, o2 + i, none⟩ = some (.slice A3 n3 c3) := HFB.out _ HR7.out.bl))
          have hn18 : n18 = bd.length + 8 := by rw [← ho18.len, fput_len]
          have hn18' : n18 ≤ 8200 := by omega
          have HO18 := Lib.hid ho18.bytes
          have HN18 := Lib.hid hn18
          have hbw7 := HR7.out.size
          have h8' : bd.length ≤ 8192 := by omega
          clear ho18 hb18 HRD HR6 fk1 fk2 fk3 fk4 h3l hn18
          obtain ⟨r1, r2, r3⟩ := rec_lt HFI.out (show i < hs.length by rw [HHL.out]; exact hia)
          rw [HHL.out] at r2
          have HX1 := Lib.hid r1
          have HX2 := Lib.hid r2
          have HX3 := Lib.hid (r3 h8' HF1.out)
          have hia0 : i - a = 0 := by omega
          have hia1 : i + 1 - a = 0 := by omega
          have hgq : decide ((i : Int) ≥ (a : Int)) = false := by simp; omega
          have hgq' : decide ((a : Int) ≤ (i : Int)) = false := by simp; omega
          clear r1 r2 r3
          rw [hia0] at HR7 ⊢
          have HIA := Lib.hid (And.intro hia0 hia1)
          clear hia0 hia1
          go_wp2_with (at_builtin; refine wpList_append_bytes rfl (.tmp 95) (.tmp 96) rfl rfl HR7.out.l rfl HO18.out (by omega) hbw7 ?_; intro A19 c19 w19 ho19 hg19 hat19; have HR8 := Lib.hid (HR7.out.all ho19 hg19 hat19); clear ho19 hg19 hat19)
          go_roundw
          case rel => exact ⟨i + 1, A13, n13, c13, A19, n14 + n18, c19, A15, c15, _, by omega, by omega, by omega, rfl, rfl, by rw [HIA.out.2], by go_num, HX3.out, by rw [HX2.out]; exact HF2.out, by rw [HX2.out, HX1.out, HIA.out.2, HIA.out.1]; exact HR8.out⟩
          case measure => simp [intOf]; omega
      · as_aux_lemma =>
          have heqq : ((i : Int) == (a : Int)) = true := by simp; omega
          have HIE := Lib.hid hia
          have hia' : a ≤ i := by omega
          clear hia
          have hjf : -9223372036854775808 ≤ (recJ hs gs i).fuse ∧ (recJ hs gs i).fuse ≤ 9223372036854775807 := by rw [(recJ_fuse hs gs i).1]; decide
          have hjs : (recJ hs gs i).kept.length + (recJ hs gs i).rest.length ≤ 140737488355328 := by
            rw [recJ_size]
            have h1 := hR.t.len
            have h2 := hR.l.len
            rw [fcat_len] at h1 h2
            rw [HHL.out]
            omega
          have HR0 := Lib.hid hR
          clear hR
          go_wp2_with fail
          refine (jSync wo g C _ HR0.out.j hjf hjs).mono ?_
          rintro e w5 ⟨rfl, hJ5, hK5⟩
          have HR5 := HR0.out.turn hJ5 hK5
          rw [rec_sync hs gs i (by rw [HHL.out]; exact HIE.out)] at HR5 ⊢
          have HRS := Lib.hid HR5
          have hs5 := hK5.size
          clear HR5 hJ5 hK5 HR0 hjf hjs
          generalize since wo C w5 = C5 at *
          have fk1 : w5.drew.cell? ⟨g1, o1 + i, none⟩ = some (.int .u8 (kd.toNat : Int)) := HFK.out _ HRS.out.bl.drew
          have fk2 : w5.drew.cell? ⟨g2, o2 + i, none⟩ = some (.slice A3 n3 c3) := HFB.out _ HRS.out.bl.drew
          have hbw5 := HRS.out.size
          have HRD := Lib.hid (HRS.out.later (Below.refl _ w5).drew)
          have QA := Lib.hid (jAppend w5.drew (show 0 < w5.heap.size by omega) (HT.out.below HRS.out.bl.drew hw) g C5 _ HRD.out.j HSF.out kd A3 n3 c3 w.heap.size bd (HY.out.below HRS.out.bl.drew) hbw5 hz3 hsr)
          go_wp2_with fail
          go_region_held3 (fun w' => w'.cell? ⟨g1, o1 + i, none⟩ = some (.int .u8 (kd.toNat : Int)) ∧ w'.cell? ⟨g2, o2 + i, none⟩ = some (.slice A3 n3 c3))
            ((first | assumption | trivial))
            ((go_at_call 56; refine QA.out.mono ?_; clear QA; rintro e w6 ⟨rfl, hJ6, hK6⟩; have HR6 := Lib.hid (HRD.out.turn hJ6 hK6); have fk3 : w6.cell? ⟨g1, o1 + i, none⟩ = some (.int .u8 (kd.toNat : Int)) := HFK.out _ HR6.out.bl; have fk4 : w6.cell? ⟨g2, o2 + i, none⟩ = some (.slice A3 n3 c3) := HFB.out _ HR6.out.bl))
          have hs6 := hK6.size
          have hs65 : w5.heap.size ≤ w6.heap.size := hs6
          clear hJ6 hK6 HRD HRS fk1 fk2 fk3 fk4 hs6
          by_cases h8 : 8192 < bd.length
          · rw [rec_much hs gs i kd bd h8]
            have HE := Lib.hid HR6.out.bl
            clear HR6 h8 h3l
            go_wp2
            go_ret
            exact ⟨by simp, HE.out⟩
          rw [rec_append hs gs i kd bd HFI.out (by omega)] at HR6 ⊢
          generalize since w5.drew C5 w6 = C6 at *
          have hE : putE bd = 0 := by unfold putE; rw [if_neg h8]
          have hP : putB kd bd = fput kd bd := by unfold putB; rw [if_neg h8]
          have hbw6 := HR6.out.size
          have fk1 : w6.drew.cell? ⟨g1, o1 + i, none⟩ = some (.int .u8 (kd.toNat : Int)) := HFK.out _ HR6.out.bl.drew
          have fk2 : w6.drew.cell? ⟨g2, o2 + i, none⟩ = some (.slice A3 n3 c3) := HFB.out _ HR6.out.bl.drew
          have QP := refPut kd A3 n3 c3 bd w.heap.size w6.drew (HY.out.below HR6.out.bl.drew) hbw6 hz3
          unfold Put at QP
          rw [hE, hP] at QP
          have HQP := Lib.hid QP
          have HRD := Lib.hid (HR6.out.later (Below.refl _ w6).drew)
          clear QP hE hP
          go_wp2_with fail
          go_region_held3 (fun w' => w'.cell? ⟨g1, o1 + i, none⟩ = some (.int .u8 (kd.toNat : Int)) ∧ w'.cell? ⟨g2, o2 + i, none⟩ = some (.slice A3 n3 c3))
            ((first | assumption | trivial))
            ((go_at_call 41; refine HQP.out.mono ?_; clear HQP; rintro e w7 ⟨A18, n18, c18, rfl, ho18, hb18⟩; have HR7 := Lib.hid (HRD.out.later hb18); have fk3 : w7.cell? ⟨g1, o1 + i, none⟩ = some (.int .u8 (kd.toNat : Int)) := HFK.out _ HR7.out.bl; have fk4 : w7.cell? ⟨g2, o2 + i, none⟩ = some (.slice A3 n3 c3) := HFB.out _ HR7.out.bl))
          have hn18 : n18 = bd.length + 8 := by rw [← ho18.len, fput_len]
          have hn18' : n18 ≤ 8200 := by omega
          have HO18 := Lib.hid ho18.bytes
          have HN18 := Lib.hid hn18
          have hbw7 := HR7.out.size
          have h8' : bd.length ≤ 8192 := by omega
          clear ho18 hb18 HRD HR6 fk1 fk2 fk3 fk4 h3l hn18
          obtain ⟨r1, r2, r3, r4⟩ := rec_ge HFI.out (show hs.length ≤ i by rw [HHL.out]; omega)
          rw [HHL.out] at r1 r2 r4
          have HX1 := Lib.hid r1
          have HX2 := Lib.hid r2
          have HX3 := Lib.hid r3
          have HX4 := Lib.hid (r4 h8' HF2.out)
          have hgq : decide ((i : Int) ≥ (a : Int)) = true := by simp; omega
          have hgq' : decide ((a : Int) ≤ (i : Int)) = true := by simp; omega
          have hnf : n13 + n18 = flen (gs.take (i - a + 1)) := by
            rw [← fcat_len, HX2.out, List.length_append, HR7.out.t.len, fput_len]
            have := HN18.out
            omega
          have HNF := Lib.hid hnf
          clear r1 r2 r3 r4 hnf
          go_wp2_with (first
            | (at_builtin; refine wpList_append_bytes rfl (.tmp 87) (.tmp 88) rfl rfl HR7.out.t rfl HO18.out (by omega) hbw7 ?_; intro A19 c19 w19 ho19 hg19 hat19; have HR8 := Lib.hid (HR7.out.tail ho19 hg19 hat19); have hs8 := HR8.out.size; have HR9 := Lib.hid (HR8.out.later ((Below.refl _ w19).alloc (Nat.le_refl _) (.cells #[.int .i64 ((n13 : Int) + (n18 : Int))] 3))); clear ho19 hg19 hat19 HR8)
            | (at_builtin; refine wpList_append_int_at rfl (.tmp 90) (.tmp 93) rfl rfl HR9.out.e rfl (Boxed.new w19 3 _).cell (by omega) HR9.out.size ?_; intro A20 c20 w20 ho20 hg20 hat20; have HR10 := Lib.hid (HR9.out.ends ho20 hg20 hat20); clear ho20 hg20 hat20))
          go_roundw
          case rel => exact ⟨i + 1, A19, n13 + n18, c19, A14, n14, c14, A20, c20, _, by omega, by omega, by omega, rfl, rfl, by rw [HX1.out], by go_num, by rw [HX3.out]; exact HF1.out, by rw [HX1.out]; exact HX4.out, by rw [HX1.out, HX2.out, HX3.out, recEnds_succ, ← HNF.out, Int.natCast_add]; exact HR10.out⟩
          case measure => simp [intOf]; omega
      · as_aux_lemma =>
          have HRS := Lib.hid hR
          rw [rec_skip hs gs i (by rw [HHL.out]; omega)] at HRS
          have hneq : ((i : Int) == (a : Int)) = false := by simp; omega
          obtain ⟨w5, hw5⟩ : ∃ w5, w5 = wo := ⟨_, rfl⟩
          obtain ⟨C5, hC5⟩ : ∃ C5, C5 = C := ⟨_, rfl⟩
          rw [← hw5, ← hC5] at HRS
          have hs5 : wo.heap.size ≤ w5.heap.size := by rw [hw5]; exact Nat.le_refl _
          clear hR hC5
          rw [← hw5]
          clear hw5
          have fk1 : w5.drew.cell? ⟨g1, o1 + i, none⟩ = some (.int .u8 (kd.toNat : Int)) := HFK.out _ HRS.out.bl.drew
          have fk2 : w5.drew.cell? ⟨g2, o2 + i, none⟩ = some (.slice A3 n3 c3) := HFB.out _ HRS.out.bl.drew
          have hbw5 := HRS.out.size
          have HRD := Lib.hid (HRS.out.later (Below.refl _ w5).drew)
          have QA := Lib.hid (jAppend w5.drew (show 0 < w5.heap.size by omega) (HT.out.below HRS.out.bl.drew hw) g C5 _ HRD.out.j HSF.out kd A3 n3 c3 w.heap.size bd (HY.out.below HRS.out.bl.drew) hbw5 hz3 hsr)
          go_wp2_with fail
          go_region_held3 (fun w' => w'.cell? ⟨g1, o1 + i, none⟩ = some (.int .u8 (kd.toNat : Int)) ∧ w'.cell? ⟨g2, o2 + i, none⟩ = some (.slice A3 n3 c3))
            ((first | assumption | trivial))
            ((go_at_call 56; refine QA.out.mono ?_; clear QA; rintro e w6 ⟨rfl, hJ6, hK6⟩; have HR6 := Lib.hid (HRD.out.turn hJ6 hK6); have fk3 : w6.cell? ⟨g1, o1 + i, none⟩ = some (.int .u8 (kd.toNat : Int)) := HFK.out _ HR6.out.bl; have fk4 : w6.cell? ⟨g2, o2 + i, none⟩ = some (.slice A3 n3 c3) := HFB.out _ HR6.out.bl))
          have hs6 := hK6.size
          have hs65 : w5.heap.size ≤ w6.heap.size := hs6
          clear hJ6 hK6 HRD HRS fk1 fk2 fk3 fk4 hs6
          by_cases h8 : 8192 < bd.length
          · rw [rec_much hs gs i kd bd h8]
            have HE := Lib.hid HR6.out.bl
            clear HR6 h8 h3l
            go_wp2
            go_ret
            exact ⟨by simp, HE.out⟩
          rw [rec_append hs gs i kd bd HFI.out (by omega)] at HR6 ⊢
          generalize since w5.drew C5 w6 = C6 at *
          have hE : putE bd = 0 := by unfold putE; rw [if_neg h8]
          have hP : putB kd bd = fput kd bd := by unfold putB; rw [if_neg h8]
          have hbw6 := HR6.out.size
          have fk1 : w6.drew.cell? ⟨g1, o1 + i, none⟩ = some (.int .u8 (kd.toNat : Int)) := HFK.out _ HR6.out.bl.drew
          have fk2 : w6.drew.cell? ⟨g2, o2 + i, none⟩ = some (.slice A3 n3 c3) := HFB.out _ HR6.out.bl.drew
          have QP := refPut kd A3 n3 c3 bd w.heap.size w6.drew (HY.out.below HR6.out.bl.drew) hbw6 hz3
          unfold Put at QP
          rw [hE, hP] at QP
          have HQP := Lib.hid QP
          have HRD := Lib.hid (HR6.out.later (Below.refl _ w6).drew)
          clear QP hE hP
          go_wp2_with fail
          go_region_held3 (fun w' => w'.cell? ⟨g1, o1 + i, none⟩ = some (.int .u8 (kd.toNat : Int)) ∧ w'.cell? ⟨g2, o2 + i, none⟩ = some (.slice A3 n3 c3))
            ((first | assumption | trivial))
            ((go_at_call 41; refine HQP.out.mono ?_; clear HQP; rintro e w7 ⟨A18, n18, c18, rfl, ho18, hb18⟩; have HR7 := Lib.hid (HRD.out.later hb18); have fk3 : w7.cell? ⟨g1, o1 + i, none⟩ = some (.int .u8 (kd.toNat : Int)) := HFK.out _ HR7.out.bl; have fk4 : w7.cell? ⟨g2, o2 + i, none⟩ = some (.slice A3 n3 c3) := HFB.out _ HR7.out.bl))
          have hn18 : n18 = bd.length + 8 := by rw [← ho18.len, fput_len]
          have hn18' : n18 ≤ 8200 := by omega
          have HO18 := Lib.hid ho18.bytes
          have HN18 := Lib.hid hn18
          have hbw7 := HR7.out.size
          have h8' : bd.length ≤ 8192 := by omega
          clear ho18 hb18 HRD HR6 fk1 fk2 fk3 fk4 h3l hn18
          obtain ⟨r1, r2, r3, r4⟩ := rec_ge HFI.out (show hs.length ≤ i by rw [HHL.out]; omega)
          rw [HHL.out] at r1 r2 r4
          have HX1 := Lib.hid r1
          have HX2 := Lib.hid r2
          have HX3 := Lib.hid r3
          have HX4 := Lib.hid (r4 h8' HF2.out)
          have hgq : decide ((i : Int) ≥ (a : Int)) = true := by simp; omega
          have hgq' : decide ((a : Int) ≤ (i : Int)) = true := by simp; omega
          have hnf : n13 + n18 = flen (gs.take (i - a + 1)) := by
            rw [← fcat_len, HX2.out, List.length_append, HR7.out.t.len, fput_len]
            have := HN18.out
            omega
          have HNF := Lib.hid hnf
          clear r1 r2 r3 r4 hnf
          go_wp2_with (first
            | (at_builtin; refine wpList_append_bytes rfl (.tmp 87) (.tmp 88) rfl rfl HR7.out.t rfl HO18.out (by omega) hbw7 ?_; intro A19 c19 w19 ho19 hg19 hat19; have HR8 := Lib.hid (HR7.out.tail ho19 hg19 hat19); have hs8 := HR8.out.size; have HR9 := Lib.hid (HR8.out.later ((Below.refl _ w19).alloc (Nat.le_refl _) (.cells #[.int .i64 ((n13 : Int) + (n18 : Int))] 3))); clear ho19 hg19 hat19 HR8)
            | (at_builtin; refine wpList_append_int_at rfl (.tmp 90) (.tmp 93) rfl rfl HR9.out.e rfl (Boxed.new w19 3 _).cell (by omega) HR9.out.size ?_; intro A20 c20 w20 ho20 hg20 hat20; have HR10 := Lib.hid (HR9.out.ends ho20 hg20 hat20); clear ho20 hg20 hat20))
          go_roundw
          case rel => exact ⟨i + 1, A19, n13 + n18, c19, A14, n14, c14, A20, c20, _, by omega, by omega, by omega, rfl, rfl, by rw [HX1.out], by go_num, by rw [HX3.out]; exact HF1.out, by rw [HX1.out]; exact HX4.out, by rw [HX1.out, HX2.out, HX3.out, recEnds_succ, ← HNF.out, Int.natCast_add]; exact HR10.out⟩
          case measure => simp [intOf]; omega
    · have hiN' : i = N := by omega
      have hgt : gs.take (i - a) = gs := List.take_of_length_le (by rw [HGL.out]; omega)
      have hht : hs.take i = hs := List.take_of_length_le (by rw [HHL.out]; omega)
      rw [hgt] at hf2 hR
      rw [hht] at hf1 hR
      have HFH := Lib.hid hf1
      have HFG := Lib.hid hf2
      have HIN := Lib.hid hiN'
      have hn13f : flen gs = n13 := by rw [← hR.t.len, fcat_len]
      have hn14f : flen hs = n14 := by rw [← hR.l.len, fcat_len]
      have HN13 := Lib.hid hn13f
      have HN14 := Lib.hid hn14f
      have hn13b : n13 ≤ 328000 := by omega
      have hn14b : n14 ≤ 328000 := by omega
      obtain ⟨d, hd⟩ : ∃ d, d = i - a := ⟨_, rfl⟩
      have hdg : gs.length = d := by rw [HGL.out, hd]; omega
      have had : a + d = N := by omega
      rw [← hd] at hR ⊢
      have HDG := Lib.hid hdg
      have HAD := Lib.hid had
      have HR := Lib.hid hR
      have hd40 : d ≤ 40 := by omega
      have hend : recS hs gs i = ⟨fcat hs, fcat gs, -1, false⟩ := recS_end hs gs i (by rw [HHL.out, HDG.out]; omega)
      have HEND := Lib.hid hend
      have hjf : -9223372036854775808 ≤ (recJ hs gs i).fuse ∧ (recJ hs gs i).fuse ≤ 9223372036854775807 := by rw [(recJ_fuse hs gs i).1]; decide
      have hjs : (recJ hs gs i).kept.length + (recJ hs gs i).rest.length ≤ 140737488355328 := by
        have h1 := flen_take_le hs i
        have h2 := flen_take_le gs (i - hs.length)
        rw [recJ_size]
        omega
      have HJS := Lib.hid (And.intro hjf hjs)
      clear hiN' hR hf1 hf2 hgt hht hn13f hn14f hd hdg had hend hjf hjs hn13 hn14
      have had' : a ≤ N := haN
      go_upto_if 100 with fail
      go_cut [12] (fun x12 wx => x12 = .int .i64 (a : Int) ∧ ∃ C5, Rec w g C5 ⟨fcat hs, fcat gs, -1, false⟩ A13 n13 c13 (fcat gs) A14 n14 c14 (fcat hs) A15 d c15 (recEnds gs d) wx)
      case first =>
        by_cases hai : a = N
        · have hq : ((a : Int) == (N : Int)) = true := by simp; omega
          have HAI := Lib.hid hai
          clear hai
          go_wp2_with fail
          refine (jSync wo g C _ HR.out.j HJS.out.1 HJS.out.2).mono ?_
          rintro e w5 ⟨rfl, hJ5, hK5⟩
          have HR5 := HR.out.turn hJ5 hK5
          rw [rec_sync hs gs i (by rw [HHL.out]; have := HIN.out; have := HAI.out; omega), HEND.out] at HR5
          have HRX := Lib.hid HR5
          clear hJ5 hK5 HR5
          go_wp2_with fail
          go_meet
          exact ⟨rfl, _, HRX.out⟩
        · have hq : ((a : Int) == (N : Int)) = false := by simp; omega
          have hR5 := HR.out
          rw [rec_skip hs gs i (by rw [HHL.out]; have := HIN.out; omega), HEND.out] at hR5
          have HRX := Lib.hid hR5
          clear hR5
          go_wp2_with fail
          go_meet
          exact ⟨rfl, _, HRX.out⟩
      case rest =>
        obtain ⟨rfl, C5, hR5⟩ := hcut
        have HR5 := Lib.hid hR5
        have hbw5 := hR5.size
        clear hR5 HR HJS HEND
        -- how many bytes are kept
        obtain ⟨kp, hkp'⟩ : ∃ kp, kp = (min (max keep 0) (n13 : Int)).toNat := ⟨_, rfl⟩
        have hkI : min (max keep 0) (n13 : Int) = (kp : Int) := by omega
        have hkn : kp ≤ n13 := by omega
        have hkN : keepN keep ⟨fcat hs, fcat gs, -1, false⟩ = kp := by
          unfold keepN
          simp only
          rw [fcat_len, HN13.out]
          omega
        have HKN := Lib.hid hkN
        clear hkN hkp'
        generalize hwc : wc = w5 at *
        clear hwc
        go_wp2_with fail
        refine (jCrash w5 g C5 _ HR5.out.j (by simp only [fcat_len]; have := HN13.out; have := HN14.out; omega) keep).mono ?_
        rintro e w6 ⟨⟨v6, rfl⟩, hJ6, hK6⟩
        rw [rec_crash, HKN.out] at hJ6
        have HR6 := Lib.hid (HR5.out.turn hJ6 hK6)
        clear hJ6 hK6 HR5 HKN hkI
        generalize since w5 C5 w6 = C6 at *
        go_upto_block 2 with fail
        go_cut [21] from 111 to 124 (fun x21 wx => ∃ m : Nat, x21 = .int .i64 (m : Int) ∧ m ≤ d ∧ flen (gs.take m) ≤ kp ∧ (m = d ∧ kp = n13 ∨ m < d ∧ kp < flen (gs.take (m + 1))) ∧ wx = w6)
        case first =>
          go_wp2_with fail
          go_loopw [21] (fun x21 wr' => ∃ m : Nat, m ≤ d ∧ x21 = .int .i64 (m : Int) ∧ flen (gs.take m) ≤ kp ∧ wr' = w6) (fun x21 _ => d - (intOf x21).toNat)
          case atStart => exact ⟨0, Nat.zero_le _, rfl, by rw [List.take_zero, flen_nil]; exact Nat.zero_le _, rfl⟩
          case round =>
            obtain ⟨m, hmd, rfl, hle, rfl⟩ := hrel
            obtain ⟨F1, hF1⟩ : ∃ F1, F1 = flen (gs.take (m + 1)) := ⟨_, rfl⟩
            have HF1' := Lib.hid hF1
            have HLE := Lib.hid hle
            by_cases hm : m < d
            · obtain ⟨g9, rfl, _, _, _⟩ := HR6.out.e.form_pos (by omega)
              have f9 := HR6.out.e.cellD m hm
              rw [recEnds_at gs d m hm, ← hF1] at f9
              clear hF1 hle
              by_cases hf : F1 ≤ kp
              · go_wp2
                go_roundw
                case rel => exact ⟨m + 1, by omega, by go_num, by rw [← HF1'.out]; exact hf, by trivial⟩
                case measure => simp [intOf]; omega
              · go_wp2
                go_meet
                exact ⟨m, rfl, hmd, HLE.out, .inr ⟨hm, by rw [← HF1'.out]; omega⟩, rfl⟩
            · have hme : m = d := by omega
              have HE := Lib.hid (show kp = n13 by
                have h1 : gs.take m = gs := List.take_of_length_le (by rw [HDG.out]; omega)
                have h2 := HLE.out
                rw [h1, HN13.out] at h2
                omega)
              have HME := Lib.hid hme
              clear hF1 hle hme
              go_wp2
              go_meet
              exact ⟨m, rfl, hmd, HLE.out, .inl ⟨HME.out, HE.out⟩, rfl⟩
        case rest =>
          obtain ⟨m, rfl, hmd, hle, hend, hwx⟩ := hcut
          have HO := Lib.hid (rec_open hs gs kp m HFH.out HFG.out (by rw [HDG.out]; exact hmd) hle (by rw [HDG.out, HN13.out]; exact hend))
          have HFM := Lib.hid (fit_append HFH.out (fit_take HFG.out m))
          have hT13 : flen (gs.take m) ≤ n13 := by omega
          have HLN := Lib.hid (show (hs ++ gs.take m).length = a + m by rw [List.length_append, List.length_take, HHL.out, HDG.out]; omega)
          have HAF := Lib.hid (show ∀ j, j < a + m → (hs ++ gs.take m)[j]? = some (ks.getD j 0, bs.getD j []) from fun j hj => by
            rw [app_take_at (by rw [HHL.out]; exact hj)]
            exact HAT.out j (by have := HAD.out; omega))
          have HT13 := Lib.hid hT13
          have HMD := Lib.hid hmd
          clear hle hend hT13
          rw [hwx]
          clear hwx
          have hbw6 := HR6.out.size
          have HNB := Lib.hid (And.intro HN13.out HN14.out)
          obtain ⟨M, hM⟩ : ∃ M, M = a + m := ⟨_, rfl⟩
          have hMN : M ≤ N := by have := HAD.out; omega
          have HM := Lib.hid hM
          have hMI : (a : Int) + (m : Int) = (M : Int) := by omega
          clear hM
          go_wp2_with fail
          refine (jOpen w6 (by omega) (HT.out.below HR6.out.bl hw) g C6 _ HR6.out.j (fun q hq => by have := HR6.out.lc q hq; omega) (by simp only [List.length_append, List.length_take, fcat_len]; have := HNB.out; omega) calmJ).mono ?_
          rintro e w8 ⟨w7, AK, nK, cK, AB, nB, cB, rfl, hK7, hC7, hK8, hJ8⟩
          rw [HO.out] at hC7 hJ8 ⊢
          have HR8 := Lib.hid (HR6.out.turn2 hK7.size hJ8 (hK7.trans hK8 (fun _ _ hc => hc)))
          have HS8 := Lib.hid ((Still.refl w7 w6.heap.size).kept hK8 (fun k hk => .inl (HR6.out.j.bd k hk)))
          have HCB := Lib.hid (show ∀ k, since w7 C6 w8 k → k < w6.heap.size ∨ w7.heap.size ≤ k from fun k hk => hk.elim (fun h => .inl (HR6.out.j.bd k h)) (fun h => .inr h.1))
          have HLB := Lib.hid (show ∀ q, A14.map (·.block) = some q → q < w6.heap.size from fun q hq => (HR6.out.l.lt q hq).2)
          have hct := hC7.count
          simp only [List.length_map] at hct
          have hnK : nK = M := by have := HLN.out; have := HM.out; omega
          have hnB : nB = M := by have := HLN.out; have := HM.out; omega
          subst hnK
          subst hnB
          have HC7 := Lib.hid hC7
          have hbw8 := HR8.out.size
          have HC8 := Lib.hid (HC7.out.still HS8.out)
          clear hK7 hC7 hK8 hJ8 hct HR6 HO
          generalize since w7 C6 w8 = C8 at *
          go_wp2_with fail
          clear hMI
          -- each is as it was
          go_loopw [25] (fun x25 wr' => ∃ j : Nat, j ≤ nB ∧ x25 = .int .i64 (j : Int) ∧ Below w8.heap.size w8 wr') (fun x25 _ => nB - (intOf x25).toNat)
          case atStart => exact ⟨0, Nat.zero_le _, rfl, Below.refl _ _⟩
          case round =>
            obtain ⟨j, hjm, rfl, hb⟩ := hrel
            by_cases hj : j < nB
            · have bw := HR8.out.bl.trans (hb.mono hbw8)
              have hfj := HAF.out j (by have := HM.out; omega)
              have eK : ((hs ++ gs.take m).map (·.1)).getD j 0 = ks.getD j 0 := by
                rw [List.getD_eq_getElem?_getD, List.getElem?_map, hfj]; rfl
              have eB : ((hs ++ gs.take m).map (·.2))[j]? = some (bs.getD j []) := by rw [List.getElem?_map, hfj]; rfl
              obtain ⟨gK, rfl, _, _, _⟩ := HC8.out.kinds.form_pos (by omega)
              have fK := (HC8.out.kinds.later hb).cellD j hj
              rw [eK] at fK
              obtain ⟨gB, oB, A5, n5, c5, rfl, hgB, hcB, hl5⟩ := (HC8.out.later hb).lists.2 j _ eB
              obtain ⟨g1, o1, rfl, hg1, hc1b⟩ := HR1.out.2 (by omega)
              obtain ⟨g2, o2, A3, n3, c3, rfl, hg2, hc2b, hl3⟩ := HR2.out.2 j (bs.getD j []) (by rw [List.getD_eq_getElem?_getD, List.getElem?_eq_getElem (by rw [HL2.out]; omega)]; rfl)
              have hk3 : wr.cell? ⟨g1, o1 + j, none⟩ = some (.int .u8 ((ks.getD j 0).toNat : Int)) := by
                rw [bw.cell (p := ⟨g1, o1 + j, none⟩) hg1, hc1b j (by rw [HL1.out]; omega), List.getD_eq_getElem?_getD, List.getElem?_eq_getElem (by rw [HL1.out]; omega)]
                rfl
              have hb3 : wr.cell? ⟨g2, o2 + j, none⟩ = some (.slice A3 n3 c3) := by rw [bw.cell (p := ⟨g2, o2 + j, none⟩) hg2]; exact hc2b
              have hcvA := conv_strs hl5 c5
              have hcvB := conv_strs (hl3.below bw) c3
              have fK' : wr.cell? ⟨gK, j, none⟩ = some (.int .u8 ((ks.getD j 0).toNat : Int)) := fK
              have q0 : (0 : Int) ≤ (j : Int) := by omega
              have q1 : (j : Int) < (n1 : Int) := by omega
              have q2 : (j : Int) < (n2 : Int) := by omega
              have q3 : (j : Int) < (nB : Int) := by omega
              generalize ks.getD j 0 = kd at *
              generalize str (bs.getD j []) = sd at *
              have HB3 := Lib.hid hb
              clear hb bw hfj eK eB fK hl5 hl3 hc1b hc2b
              go_wp2
              go_quiet (fail)
              go_wp2
              go_roundw
              case rel => exact ⟨j + 1, by omega, by go_num, by first | exact below_draws HB3.out _ | exact HB3.out⟩
              case measure => simp [intOf]; omega
            · obtain ⟨w9, hw9⟩ : ∃ w9, w9 = wr := ⟨_, rfl⟩
              have hje : j = nB := by omega
              rw [← hw9]
              rw [← hw9] at hb
              have HR9 := Lib.hid (HR8.out.later hb)
              have HS9 := Lib.hid (HS8.out.later hb)
              have hbw9 := HR9.out.size
              clear hb hw9 HR8 HS8 HC8 hje
              go_upto_if 178 with fail
              go_cut [14] from 177 to 187 (fun x14 wx => ∃ (A' : Option Addr) (n' c' : Nat), x14 = .slice A' n' c' ∧ n' ≤ 656000 ∧ Rec w g C8 ⟨fcat (hs ++ gs.take m), [], -1, false⟩ A13 n13 c13 (fcat gs) A' n' c' (fcat (hs ++ gs.take m)) A15 d c15 (recEnds gs d) wx ∧ Still w7 w6.heap.size wx)
              case first =>
                by_cases hm0 : m = 0
                · have hL := HR9.out
                  have e1 : fcat hs = fcat (hs ++ gs.take m) := by rw [hm0, List.take_zero, List.append_nil]
                  rw [show (fcat hs : List UInt8) = fcat (hs ++ gs.take m) from e1] at hL
                  have HLX := Lib.hid hL
                  have q : decide ((m : Int) > 0) = false := by simp; omega
                  have q' : decide ((0 : Int) < (m : Int)) = false := by simp; omega
                  have q2 : decide (0 < m) = false := by simp; omega
                  have q3 : ¬ (0 < m) := by omega
                  have q4 : ¬ ((0 : Int) < (m : Int)) := by omega
                  clear hL e1 hm0
                  go_wp2_with fail
                  go_meet
                  exact ⟨_, _, _, rfl, by omega, HLX.out, HS9.out⟩
                · obtain ⟨p, hp⟩ : ∃ p, m = p + 1 := ⟨m - 1, by omega⟩
                  have hpI : (m : Int) - 1 = (p : Int) := by omega
                  have hpd : p < d := by have := HMD.out; omega
                  have q : decide ((m : Int) > 0) = true := by simp; omega
                  have q' : decide ((0 : Int) < (m : Int)) = true := by simp; omega
                  have q2 : decide (0 < m) = true := by simp; omega
                  obtain ⟨g9, rfl, _, _, _⟩ := HR9.out.e.form_pos (by omega)
                  have f9 := HR9.out.e.cellD p hpd
                  rw [recEnds_at gs d p hpd, ← hp] at f9
                  have hac : n13 ≤ c13 := HR9.out.t.cap
                  have hA8 : Option.map (fun x => x.add 0) A13 = A13 := by
                    rcases HR9.out.t.form with ⟨rfl, _⟩ | ⟨g, rfl, _⟩
                    · rfl
                    · show some ((⟨g, 0, none⟩ : Addr).add 0) = _
                      rw [add_litD]
                  have hif : (if c13 = 0 then A13 else A13) = A13 := by split <;> rfl
                  have hTk := HR9.out.t.bytes.take HT13.out
                  have hak := all_kept hs gs m
                  have hT13 := HT13.out
                  obtain ⟨T, hT⟩ : ∃ T, T = flen (gs.take m) := ⟨_, rfl⟩
                  rw [← hT] at f9 hTk hak hT13
                  have hTc : T ≤ c13 := by omega
                  have HTK := Lib.hid hTk
                  have HAK := Lib.hid hak
                  have hwp : IntKind.i64.wrap (p : Int) = (p : Int) := IntWalk.i64_in _ (by omega)
                  clear hTk hak hT hp
                  go_wp2_with (at_builtin; refine wpList_append_bytes rfl (.tmp 179) (.tmp 186) rfl rfl HR9.out.l rfl HTK.out (by omega) hbw9 ?_; intro A19 c19 w19 ho19 hg19 hat19; rw [HAK.out] at ho19; have HR10 := Lib.hid (HR9.out.all ho19 hg19 hat19); have HS10 := Lib.hid (HS9.out.kept (kept_row hg19) (fun k e => .inl (HLB.out k e))); clear ho19 hg19 hat19)
                  go_meet
                  exact ⟨_, _, _, rfl, by omega, HR10.out, HS10.out⟩
              case rest =>
                obtain ⟨A', n', c', rfl, hn', hR10, hS10⟩ := hcut
                have HR10 := Lib.hid hR10
                have HS10 := Lib.hid hS10
                clear hR10 hS10 HR9 HS9
                have hwc : ∃ w10, w10 = wc := ⟨_, rfl⟩
                obtain ⟨w10, hwc⟩ := hwc
                rw [← hwc]
                rw [← hwc] at HR10 HS10
                clear hwc
                go_wp2_with fail
                refine (jOpen w10 (by have := HR10.out.size; omega) (HT.out.below HR10.out.bl hw) g C8 _ HR10.out.j (fun q hq => by have := HR10.out.lc q hq; omega) (by have := HR10.out.l.len; simp only; omega) calmJ).mono ?_
                rintro e w12 ⟨w11, AK2, nK2, cK2, AB2, nB2, cB2, rfl, hK11, hC11, hK12, hJ12⟩
                have HO2 := again_open (hs ++ gs.take m) HFM.out false
                rw [HO2] at hC11 hJ12 ⊢
                have HR12 := Lib.hid (HR10.out.turn (hJ12.from_ hK11.size) (hK11.trans hK12 (fun _ _ hc => hc)))
                have hCA := HC7.out.still (HS10.out.kept (hK11.trans hK12 (fun _ _ hc => hc)) HCB.out)
                have hCC := hC11.keptC hK12 (fun k hk => .inl (HR10.out.j.bd k hk))
                have hct := hCC.count
                simp only [List.length_map] at hct
                have hnK2 : nK2 = nB := by have := HLN.out; have := HM.out; omega
                have hnB2 : nB2 = nB := by have := HLN.out; have := HM.out; omega
                subst hnK2
                subst hnB2
                clear hK11 hC11 hK12 hJ12 hct HO2 HR10 HS10
                generalize since w10 C8 w12 = C12 at *
                have hb12 := HR12.out.size
                obtain ⟨s0, hs0⟩ : ∃ s, s = str (fcat (hs ++ gs.take m)) := ⟨_, rfl⟩
                obtain ⟨s1, hs1⟩ : ∃ s, s = str ((hs ++ gs.take m).map (·.1)) := ⟨_, rfl⟩
                have HE0 := Lib.hid hs0
                have HV14 := Lib.hid (show ∀ W, Below w12.heap.size w12 W → (convert 23 9 (.slice A' n' c')).run Tryd.prog W = .ok (.string s0) W from fun W hb => by rw [HE0.out]; exact conv_str (HR12.out.l.bytes.below hb) c')
                have HVK := Lib.hid (show ∀ W, Below w12.heap.size w12 W → (convert 23 9 (.slice AK nB2 cK)).run Tryd.prog W = .ok (.string s1) W from fun W hb => by rw [hs1]; exact conv_str (hCA.kinds.bytes.below hb) cK)
                have HVK2 := Lib.hid (show ∀ W, Below w12.heap.size w12 W → (convert 23 9 (.slice AK2 nB2 cK2)).run Tryd.prog W = .ok (.string s1) W from fun W hb => by rw [hs1]; exact conv_str (hCC.kinds.bytes.below hb) cK2)
                have HQ60 := Lib.hid (show ∀ W, Below w12.heap.size w12 W → Calls Tryd.prog 60 #[.pointer (some ⟨g, 0, none⟩)] W (Copied W n' (fcat (hs ++ gs.take m))) from fun W hb => by have := jSynced W g C12 _ (HR12.out.j.later hb) (by have := HR12.out.l.len; simp only; omega); rwa [show (⟨fcat (hs ++ gs.take m), [], -1, false⟩ : JV).kept.length = n' from HR12.out.l.len] at this)
                have HQ61 := Lib.hid (show ∀ W, Below w12.heap.size w12 W → Calls Tryd.prog 61 #[.pointer (some ⟨g, 0, none⟩)] W (Copied W 0 []) from fun W hb => jTail W g C12 _ (HR12.out.j.later hb) (Nat.zero_le _))
                have HQ53 := Lib.hid (show ∀ W, Below w12.heap.size w12 W → Calls Tryd.prog 53 #[.slice AB2 nB2 cB2, .slice AB nB2 cB] W (fun e w' => e = .returned (.bool true) ∧ ∃ m, w' = W.drewN m) from fun W hb => same AB2 nB2 cB2 AB nB2 cB _ W.heap.size W ((hCC.lists.below hb).more hb.size) ((hCA.lists.below hb).more hb.size) (by omega))
                have HB0 : Hid (Below w12.heap.size w12 w12.drew) := Lib.hid (Below.refl _ w12).drew
                clear hCA hCC hs0 hs1 HC7 HCB HM HLN HAF
                go_wp2_with fail
                refine region_L (fun w' => Below w12.heap.size w12 w') [] (by kernel_rfl) ?_
                simp only [List.size_toArray, List.length_cons, List.length_nil, Nat.reduceAdd, Array.replicate_succ, Array.replicate_zero]
                refine wpAnyG_take (i := 0) (d := some 194) (v := .int .i64 0) rfl rfl (by kernel_rfl) (by kernel_rfl) (by kernel_rfl) (by kernel_rfl) (by kernel_rfl) (fun _ _ _ h => h) (by rfl) (fun w' h => by go_simp) HB0.out ?_
                simp only [Act.put, List.setIfInBounds_toArray, List.set_cons_zero, List.set_cons_succ]
                refine wpAnyG_take (i := 1) (d := some 195) (v := .bool true) rfl rfl (by kernel_rfl) (by kernel_rfl) (by kernel_rfl) (by kernel_rfl) (by kernel_rfl) (fun _ _ _ h => h) (by rfl) (fun w' h => by go_simp) HB0.out ?_
                simp only [Act.put, List.setIfInBounds_toArray, List.set_cons_zero, List.set_cons_succ]
                refine wpAnyG_take (i := 2) (d := some 196) (v := .bool true) rfl rfl (by kernel_rfl) (by kernel_rfl) (by kernel_rfl) (by kernel_rfl) (by kernel_rfl) (fun _ _ _ h => h) (by rfl) (fun w' h => by go_simp) HB0.out ?_
                simp only [Act.put, List.setIfInBounds_toArray, List.set_cons_zero, List.set_cons_succ]
                refine wpAnyG_take (i := 3) (d := some 197) (v := .pointer (some ⟨g, 0, none⟩)) rfl rfl (by kernel_rfl) (by kernel_rfl) (by kernel_rfl) (by kernel_rfl) (by kernel_rfl) (fun _ _ _ h => h) (by rfl) (fun w' h => by go_simp) HB0.out ?_
                simp only [Act.put, List.setIfInBounds_toArray, List.set_cons_zero, List.set_cons_succ]
                refine wpAnyG_take (i := 6) (d := some 200) (v := .slice A' n' c') rfl rfl (by kernel_rfl) (by kernel_rfl) (by kernel_rfl) (by kernel_rfl) (by kernel_rfl) (fun _ _ _ h => h) (by rfl) (fun w' h => by go_simp) HB0.out ?_
                simp only [Act.put, List.setIfInBounds_toArray, List.set_cons_zero, List.set_cons_succ]
                refine wpAnyG_take (i := 7) (d := some 201) (v := .string s0) rfl rfl (by kernel_rfl) (by kernel_rfl) (by kernel_rfl) (by kernel_rfl) (by kernel_rfl) (fun _ _ _ h => h) (by rfl) (fun w' h => by have := HV14.out w' h; go_simp) HB0.out ?_
                simp only [Act.put, List.setIfInBounds_toArray, List.set_cons_zero, List.set_cons_succ]
                refine wpAnyG_one (i := 4) (by kernel_rfl) rfl (by rfl) ?_
                refine wp_hide (fun K' hK' => ?_)
                go_simp
                refine (HQ60.out _ HB0.out).mono ?_
                rintro e w13 ⟨A20, c20, rfl, ho20, hb20⟩
                have hb13 := HB0.out.trans (hb20.mono HB0.out.size)
                have hcv20 := conv_str ho20.bytes c20
                rw [← HE0.out] at hcv20
                have HB13 := Lib.hid hb13
                refine hK' _ _ ⟨fun _ => HB13.out, ?_⟩
                clear hK' K' ho20 hb20 hb13
                refine wpAnyG_one (i := 5) (by kernel_rfl) rfl (by rfl) ?_
                refine wp_value (some 199) rfl (v := .string s0) (w1 := w13) (by go_simp) ⟨fun _ => HB13.out, ?_⟩
                simp only [Act.put, List.setIfInBounds_toArray, List.set_cons_zero, List.set_cons_succ]
                clear hcv20
                refine wpAnyG_take (i := 8) (d := some 202) (v := .bool true) rfl rfl (by kernel_rfl) (by kernel_rfl) (by kernel_rfl) (by kernel_rfl) (by kernel_rfl) (fun _ _ _ h => h) (by rfl) (fun w' h => by go_simp) HB13.out ?_
                simp only [Act.put, List.setIfInBounds_toArray, List.set_cons_zero, List.set_cons_succ]
                refine wpAnyG_take (i := 9) (d := some 203) (v := .bool true) rfl rfl (by kernel_rfl) (by kernel_rfl) (by kernel_rfl) (by kernel_rfl) (by kernel_rfl) (fun _ _ _ h => h) (by rfl) (fun w' h => by go_simp) HB13.out ?_
                simp only [Act.put, List.setIfInBounds_toArray, List.set_cons_zero, List.set_cons_succ]
                refine wpAnyG_take (i := 10) (d := some 204) (v := .bool true) rfl rfl (by kernel_rfl) (by kernel_rfl) (by kernel_rfl) (by kernel_rfl) (by kernel_rfl) (fun _ _ _ h => h) (by rfl) (fun w' h => by go_simp) HB13.out ?_
                simp only [Act.put, List.setIfInBounds_toArray, List.set_cons_zero, List.set_cons_succ]
                refine wpAnyG_take (i := 11) (d := some 205) (v := .slice AK2 nB2 cK2) rfl rfl (by kernel_rfl) (by kernel_rfl) (by kernel_rfl) (by kernel_rfl) (by kernel_rfl) (fun _ _ _ h => h) (by rfl) (fun w' h => by go_simp) HB13.out ?_
                simp only [Act.put, List.setIfInBounds_toArray, List.set_cons_zero, List.set_cons_succ]
                refine wpAnyG_take (i := 12) (d := some 206) (v := .string s1) rfl rfl (by kernel_rfl) (by kernel_rfl) (by kernel_rfl) (by kernel_rfl) (by kernel_rfl) (fun _ _ _ h => h) (by rfl) (fun w' h => by have := HVK2.out w' h; go_simp) HB13.out ?_
                simp only [Act.put, List.setIfInBounds_toArray, List.set_cons_zero, List.set_cons_succ]
                refine wpAnyG_take (i := 13) (d := some 207) (v := .slice AK nB2 cK) rfl rfl (by kernel_rfl) (by kernel_rfl) (by kernel_rfl) (by kernel_rfl) (by kernel_rfl) (fun _ _ _ h => h) (by rfl) (fun w' h => by go_simp) HB13.out ?_
                simp only [Act.put, List.setIfInBounds_toArray, List.set_cons_zero, List.set_cons_succ]
                refine wpAnyG_take (i := 14) (d := some 208) (v := .string s1) rfl rfl (by kernel_rfl) (by kernel_rfl) (by kernel_rfl) (by kernel_rfl) (by kernel_rfl) (fun _ _ _ h => h) (by rfl) (fun w' h => by have := HVK.out w' h; go_simp) HB13.out ?_
                simp only [Act.put, List.setIfInBounds_toArray, List.set_cons_zero, List.set_cons_succ]
                refine wpAnyG_take (i := 15) (d := some 209) (v := .bool true) rfl rfl (by kernel_rfl) (by kernel_rfl) (by kernel_rfl) (by kernel_rfl) (by kernel_rfl) (fun _ _ _ h => h) (by rfl) (fun w' h => by go_simp) HB13.out ?_
                simp only [Act.put, List.setIfInBounds_toArray, List.set_cons_zero, List.set_cons_succ]
                refine wpAnyG_take (i := 16) (d := some 210) (v := .bool true) rfl rfl (by kernel_rfl) (by kernel_rfl) (by kernel_rfl) (by kernel_rfl) (by kernel_rfl) (fun _ _ _ h => h) (by rfl) (fun w' h => by go_simp) HB13.out ?_
                simp only [Act.put, List.setIfInBounds_toArray, List.set_cons_zero, List.set_cons_succ]
                refine wpAnyG_take (i := 17) (d := some 211) (v := .bool true) rfl rfl (by kernel_rfl) (by kernel_rfl) (by kernel_rfl) (by kernel_rfl) (by kernel_rfl) (fun _ _ _ h => h) (by rfl) (fun w' h => by go_simp) HB13.out ?_
                simp only [Act.put, List.setIfInBounds_toArray, List.set_cons_zero, List.set_cons_succ]
                refine wpAnyG_take (i := 18) (d := some 212) (v := .slice AB2 nB2 cB2) rfl rfl (by kernel_rfl) (by kernel_rfl) (by kernel_rfl) (by kernel_rfl) (by kernel_rfl) (fun _ _ _ h => h) (by rfl) (fun w' h => by go_simp) HB13.out ?_
                simp only [Act.put, List.setIfInBounds_toArray, List.set_cons_zero, List.set_cons_succ]
                refine wpAnyG_take (i := 19) (d := some 213) (v := .slice AB nB2 cB) rfl rfl (by kernel_rfl) (by kernel_rfl) (by kernel_rfl) (by kernel_rfl) (by kernel_rfl) (fun _ _ _ h => h) (by rfl) (fun w' h => by go_simp) HB13.out ?_
                simp only [Act.put, List.setIfInBounds_toArray, List.set_cons_zero, List.set_cons_succ]
                refine wpAnyG_one (i := 20) (by kernel_rfl) rfl (by rfl) ?_
                refine wp_hide (fun K' hK' => ?_)
                go_simp
                refine (HQ53.out _ HB13.out).mono ?_
                rintro e w' ⟨rfl, q, rfl⟩
                have HB14 := Lib.hid (below_draws HB13.out q)
                refine hK' _ _ ⟨fun _ => HB14.out, ?_⟩
                clear hK' K'
                generalize w13.drewN q = w14 at *
                refine wpAnyG_take (i := 21) (d := some 215) (v := .bool true) rfl rfl (by kernel_rfl) (by kernel_rfl) (by kernel_rfl) (by kernel_rfl) (by kernel_rfl) (fun _ _ _ h => h) (by rfl) (fun w' h => by go_simp) HB14.out ?_
                simp only [Act.put, List.setIfInBounds_toArray, List.set_cons_zero, List.set_cons_succ]
                refine wpAnyG_take (i := 22) (d := some 216) (v := .bool true) rfl rfl (by kernel_rfl) (by kernel_rfl) (by kernel_rfl) (by kernel_rfl) (by kernel_rfl) (fun _ _ _ h => h) (by rfl) (fun w' h => by go_simp) HB14.out ?_
                simp only [Act.put, List.setIfInBounds_toArray, List.set_cons_zero, List.set_cons_succ]
                refine wpAnyG_take (i := 23) (d := some 217) (v := .pointer (some ⟨g, 0, none⟩)) rfl rfl (by kernel_rfl) (by kernel_rfl) (by kernel_rfl) (by kernel_rfl) (by kernel_rfl) (fun _ _ _ h => h) (by rfl) (fun w' h => by go_simp) HB14.out ?_
                simp only [Act.put, List.setIfInBounds_toArray, List.set_cons_zero, List.set_cons_succ]
                refine wpAnyG_one (i := 24) (by kernel_rfl) rfl (by rfl) ?_
                refine wp_hide (fun K' hK' => ?_)
                go_simp
                refine (HQ61.out _ HB14.out).mono ?_
                rintro e w15 ⟨A21, c21, rfl, ho21, hb21⟩
                have HB15 := Lib.hid (HB14.out.trans (hb21.mono HB14.out.size))
                refine hK' _ _ ⟨fun _ => HB15.out, ?_⟩
                clear hK' K' ho21 hb21
                refine wpAnyG_take (i := 25) (d := some 219) (v := .int .i64 0) rfl rfl (by kernel_rfl) (by kernel_rfl) (by kernel_rfl) (by kernel_rfl) (by kernel_rfl) (fun _ _ _ h => h) (by rfl) (fun w' h => by go_simp) HB15.out ?_
                simp only [Act.put, List.setIfInBounds_toArray, List.set_cons_zero, List.set_cons_succ]
                refine wpAnyG_take (i := 26) (d := some 220) (v := .bool true) rfl rfl (by kernel_rfl) (by kernel_rfl) (by kernel_rfl) (by kernel_rfl) (by kernel_rfl) (fun _ _ _ h => h) (by rfl) (fun w' h => by go_simp) HB15.out ?_
                simp only [Act.put, List.setIfInBounds_toArray, List.set_cons_zero, List.set_cons_succ]
                refine wpAnyG_take (i := 27) (d := some 221) (v := .bool true) rfl rfl (by kernel_rfl) (by kernel_rfl) (by kernel_rfl) (by kernel_rfl) (by kernel_rfl) (fun _ _ _ h => h) (by rfl) (fun w' h => by go_simp) HB15.out ?_
                simp only [Act.put, List.setIfInBounds_toArray, List.set_cons_zero, List.set_cons_succ]
                refine wpAnyG_take (i := 28) (d := some 8) (v := .bool true) rfl rfl (by kernel_rfl) (by kernel_rfl) (by kernel_rfl) (by kernel_rfl) (by kernel_rfl) (fun _ _ _ h => h) (by rfl) (fun w' h => by go_simp) HB15.out ?_
                simp only [Act.put, List.setIfInBounds_toArray, List.set_cons_zero, List.set_cons_succ]
                refine wpAnyL_done (by kernel_rfl) ?_ _
                go_wp2
                go_ret
                exact ⟨by simp, HR12.out.bl.trans (HB15.out.mono hb12)⟩
end Go.Proofs.YtddcfgbembjbhaaDoor
