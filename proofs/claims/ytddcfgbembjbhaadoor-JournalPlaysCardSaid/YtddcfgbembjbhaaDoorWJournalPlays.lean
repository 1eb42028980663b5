/- The law JournalPlays, walked. -/
import Derived.Test.YtddcfgbembjbhaaDoorJour14
import Derived.Test.YtddcfgbembjbhaaDoorRecMath
import Derived.Test.YtddcfgbembjbhaaDoorSame
import Derived.Deep.RegionHeld3
namespace Go.Proofs.YtddcfgbembjbhaaDoor
open Go.RowKit
set_option linter.unusedVariables false
set_option linter.unusedSimpArgs false
section
variable {P : Program} {ops : Array Oper} {Q : Exit → Act → World → Prop} {md : Region.Mode} {S : World → Prop} {st : List Nat}
theorem wpAnyG_take {i : Nat} {oi : Oper} {v : Value} {d : Option Tmp} (hd : oi.dst = d) {fuel : Nat} {listed : Array Bool} {a : Act} {w : World} (hi : ops[i]? = some oi)
    (hs : Region.noSelect ops = true) (hf : Region.free md ops listed i = true) (hr : (Region.ready md ops listed).contains i = true) (hwt : waitsFor md ops listed st i = true) (hcl : closedB md ops listed = true)
    (hQ : ∀ c a w, Q (.panic c) (a.put d v) w → Q (.panic c) a w) (hg : Region.wanted oi (yielded ops a.tmps) = true) (hy : ∀ w, S w → (execOp a.eval oi).run P w = .ok (.value v) w) (hS : S w)
    (h : wpAnyL P md ops Q S st fuel (listed.setIfInBounds i true) (a.put d v) w) : wpAnyL P md ops Q S st (fuel + 1) listed a w := by
  subst hd
  exact wpAnyL_first listed S hi hs hQ (fun _ j w' hc hL hu hj h => h (not_store hwt hL hc hu hj)) (.inr fun _ h => h) fuel listed a w (closed_of hcl) (fun _ h => h) (Region.free_spec hi hf) (by simpa using hr) (.inl ⟨hg, hy⟩) hS h
theorem wpAnyG_one {i : Nat} {o : Oper} {fuel : Nat} {listed : Array Bool} {a : Act} {w : World} (hr : Region.ready md ops listed = [i]) (ho : ops[i]? = some o) (hg : Region.wanted o (yielded ops a.tmps) = true)
    (h : o.wp P a w (fun a' w' => (i ∉ st → S w') ∧ wpAnyL P md ops Q S st fuel (listed.setIfInBounds i true) a' w') Q) : wpAnyL P md ops Q S st (fuel + 1) listed a w :=
  ⟨fun h0 => (by rw [hr] at h0; cases h0), fun j hj => by
    rw [hr] at hj
    obtain rfl : j = i := by simpa using hj
    unfold wpOp
    simp only [ho, hg, if_true]
    exact .inl h⟩
theorem region_L {id : Nat} {a : Act} {w : World} (S : World → Prop) (st : List Nat) (hm : P.follows .mixedOrders = true)
    (h : wpAnyL P .any ops Q S st ops.size (Array.replicate ops.size false) a w.drew) : (Code.region id ops true).wp P Q a w := wp_region_any hm (wpAny_of_L _ _ _ _ h)
end
/-- What an effect, an append, a sync, an opening tell is 0, 2 or 61; it does not matter which. -/
theorem append_opW' (J : JV) (o : OpV) : (J.append o.kind o.body).2.size ≤ J.size + opW o := by
  have h := append_size o.kind o.body J
  unfold opW
  omega
set_option maxRecDepth 100000 in
set_option maxHeartbeats 8000000 in
theorem walkJournalPlays (w : World) (hw : 0 < w.heap.size) (ht : Four w) (A : Option Addr) (n c : Nat) (l : List OpV) (hr : OpsAt w w.heap.size A n l) (hc : n ≤ c) (hn : n ≤ 9223372036854775806) :
    Calls Tryd.prog 28 #[.slice A n c] w fun e w' => e = .returned (.bool true) ∧ Below w.heap.size w w' := by
  have HT := Lib.hid ht
  have HR := Lib.hid hr
  have HL := Lib.hid hr.1
  clear ht hr
  go_enter Tryd.func28, Tryd.ntmps28
  go_wp2_with fail
  refine (head06 w hw HT.out).mono ?_
  rintro e w0 ⟨rfl, b0⟩
  have HB0 := Lib.hid b0
  have hs0 := b0.size
  clear b0
  go_wp2_with fail
  refine (jNew w0).mono ?_
  rintro e w1 ⟨rfl, hJ1, b1⟩
  have HB1 := Lib.hid (HB0.out.trans (b1.mono hs0))
  have HJ1 := Lib.hid hJ1
  have hs1 := HB1.out.size
  have hbd := hJ1.bd w0.heap.size rfl
  clear hJ1 b1
  go_wp2_with fail
  refine (refNewJ w1).mono ?_
  rintro e w2 ⟨rfl, hJ2, b2⟩
  have HT2 := Lib.hid (show PlayAt w w0.heap.size w1.heap.size 0 w2 from ⟨_, _, JV.new, ⟨HJ1.out.later b2, hJ2, fun q e1 e2 => by omega, fun q e1 => by omega, fun q e1 => by omega, HB1.out.trans (b2.mono hs1)⟩, ⟨by decide, by decide⟩, Nat.le_refl _⟩)
  have HB2 := Lib.hid (HB1.out.trans (b2.mono hs1))
  clear hJ2 b2 HJ1 HB1 HB0 hbd
  generalize w1.heap.size = g' at *
  generalize w0.heap.size = g at *
  go_wp2_with fail
  refine (great62 A n c l w.heap.size w2 (OpsAt.below HR.out HB2.out) hn).mono ?_
  rintro e w2' ⟨rfl, rfl⟩
  by_cases hG : 200000 ≤ opsW l
  · have hGd : decide (200000 ≤ opsW l) = true := by simpa using hG
    rw [hGd]
    clear hG hGd
    go_wp2
    go_ret
    exact ⟨by simp, HB2.out⟩
  have hGd : decide (200000 ≤ opsW l) = false := by simpa using hG
  rw [hGd]
  have HG := Lib.hid hG
  clear hG hGd
  go_wp2_with fail
  go_loopw [6] (fun x6 wr => ∃ (k : Nat), k ≤ n ∧ x6 = .int .i64 (k : Int) ∧ PlayAt w g g' (opsW (l.take k)) wr) (fun x6 _ => n - (intOf x6).toNat)
  case atStart => exact ⟨0, Nat.zero_le _, rfl, by rw [List.take_zero, opsW_nil]; exact HT2.out⟩
  case round =>
    obtain ⟨k, hk, rfl, hP⟩ := hrel
    obtain ⟨wo, rfl⟩ : ∃ wo, wo = wr := ⟨_, rfl⟩
    obtain ⟨C, D, J, hT, hF, hS⟩ := hP
    by_cases hkn : k < n
    · obtain ⟨b, o, op, rfl, hbo, hop, A3, k3, d3, f0, f1, f2, f3, hby, hk3, hkd, hnum⟩ := OpsAt.at_ HR.out hT.bl hkn
      have hsuc := opsW_take_succ (l := l) (k := k) (by rw [HL.out]; exact hkn)
      have hge : l[k]'(by rw [HL.out]; exact hkn) = op := (List.getElem?_eq_some_iff.1 hop).2
      rw [hge] at hsuc
      have hjl : opsW (l.take (k + 1)) < 200000 := by have := opsW_take_le l (k + 1); have := HG.out; omega
      have hjs : J.size < 200000 := by omega
      have hjs' : J.size = J.kept.length + J.rest.length := rfl
      have hbw := hT.size
      have hcp : Copy4 (wo.alloc (.cells #[.int .i64 op.what, .int .u8 (op.kind.toNat : Int), .slice A3 k3 d3, .int .i64 op.num] 80)) wo.heap.size op A3 k3 d3 := heap_alloc_new wo _
      have hba := (Below.refl wo.heap.size wo).alloc (Nat.le_refl _) (.cells #[.int .i64 op.what, .int .u8 (op.kind.toNat : Int), .slice A3 k3 d3, .int .i64 op.num] 80)
      have hTa := hT.later hba
      have hoC : ¬ C wo.heap.size := fun h => Nat.lt_irrefl _ (hT.a.bd _ h)
      have hoD : ¬ D wo.heap.size := fun h => Nat.lt_irrefl _ (hT.b.bd _ h)
      have hsz : (wo.alloc (.cells #[.int .i64 op.what, .int .u8 (op.kind.toNat : Int), .slice A3 k3 d3, .int .i64 op.num] 80)).heap.size = wo.heap.size + 1 := by simp
      have hjr : J.rest.length ≤ 140737488300000 := by omega
      have hjk : J.kept.length + J.rest.length ≤ 140737488355328 := by omega
      have hjo : J.kept.length ≤ 40000000000000 := by omega
      have hjf := hF.bounds
      have HTa := Lib.hid hTa
      have HCP := Lib.hid hcp
      have HY := Lib.hid ((hby.below (hba.mono hbw)) : BytesAt (wo.alloc (.cells #[.int .i64 op.what, .int .u8 (op.kind.toNat : Int), .slice A3 k3 d3, .int .i64 op.num] 80)) w.heap.size A3 k3 op.body)
      have HOC := Lib.hid hoC
      have HOD := Lib.hid hoD
      have HFJ := Lib.hid hF
      have HSJ := Lib.hid (show J.size + opW op ≤ opsW (l.take (k + 1)) ∧ opsW (l.take (k + 1)) < 200000 by omega)
      have hob : w.heap.size ≤ wo.heap.size := hbw
      clear hT hF hS hop hby hge hsuc hjs hjs' hjl hTa hoC hoD hba
      rcases what8 op.what with hq | hq | hq | hq | hq | hq | hq | hq
      · as_aux_lemma =>
          have hcc := HCP.out.cells
          obtain ⟨y0, y1, y2, y3⟩ := hcc
          have hz5 : ((wo.alloc (.cells #[.int .i64 op.what, .int .u8 (op.kind.toNat : Int), .slice A3 k3 d3, .int .i64 op.num] 80)).alloc (.cells #[] 5)).heap.size = wo.heap.size + 2 := by simp
          have hE5 := OwnB.empty (wo.alloc (.cells #[.int .i64 op.what, .int .u8 (op.kind.toNat : Int), .slice A3 k3 d3, .int .i64 op.num] 80)) wo.heap.size (wo.heap.size + 1) hsz.symm (by omega)
          have hB5 := (Below.refl wo.heap.size (wo.alloc (.cells #[.int .i64 op.what, .int .u8 (op.kind.toNat : Int), .slice A3 k3 d3, .int .i64 op.num] 80))).alloc (by simp) (.cells #[] 5)
          have hB5' := (Below.refl (wo.alloc (.cells #[.int .i64 op.what, .int .u8 (op.kind.toNat : Int), .slice A3 k3 d3, .int .i64 op.num] 80)).heap.size (wo.alloc (.cells #[.int .i64 op.what, .int .u8 (op.kind.toNat : Int), .slice A3 k3 d3, .int .i64 op.num] 80))).alloc (Nat.le_refl _) (.cells #[] 5)
          have hc5 := HCP.out.later hB5'
          obtain ⟨x0, x1, x2, x3⟩ := hc5.cells
          have HT5 := Lib.hid (HTa.out.later hB5')
          have HY5 := Lib.hid (HY.out.below (hB5'.mono (by simp; omega)))
          have HE5 := Lib.hid hE5
          have HC5 := Lib.hid hc5
          clear hE5 hB5 hB5' hc5 hcp
          go_wp2_with (at_builtin; refine wpList_append_bytes rfl (.tmp 45) (.tmp 47) rfl rfl HE5.out rfl HY5.out (by omega) (by omega) ?_; intro A6 c6 w6 ho6 hg6 hat6; simp only [Nat.zero_add, List.nil_append] at ho6; have HO6 := Lib.hid ho6; have HG6 := Lib.hid hg6; have HA6 := Lib.hid hat6; clear ho6 hg6 hat6; have hK6 : Kept (fun q => q = wo.heap.size + 1) ((wo.alloc (.cells #[.int .i64 op.what, .int .u8 (op.kind.toNat : Int), .slice A3 k3 d3, .int .i64 op.num] 80)).alloc (.cells #[] 5)) w6 := (Kept.refl _ _).grown HG6.out (fun q e _ => (Option.some.inj e).symm); have HK6 := Lib.hid hK6; clear hK6; have hcp6 := HC5.out.kept HK6.out (by omega); obtain ⟨z0, z1, z2, z3⟩ := hcp6.cells; clear hcp6 x0 x1 x2 x3 y0 y1 y2 y3)
          have hz6 : wo.heap.size + 2 ≤ w6.heap.size := by have := HG6.out.size; omega
          have hwa := hsz
          have HAB := Lib.hid (show ∀ q, A6.map (·.block) = some q → wo.heap.size + 1 ≤ q ∧ q < w6.heap.size from fun q hq => by
            refine ⟨?_, ?_⟩
            · rcases HA6.out with e | e
              · rw [e] at hq; simp at hq; omega
              · rw [e] at hq; simp at hq; omega
            · rcases HO6.out.map_form with e | ⟨q', _, e, _, hlt, _⟩
              · rw [e] at hq; cases hq
              · rw [e] at hq; cases hq; exact hlt)
          have HBC := Lib.hid (show ∀ q, C q → q < wo.heap.size + 1 from fun q hq => by have := HTa.out.a.bd q hq; omega)
          have HBD := Lib.hid (show ∀ q, D q → q < wo.heap.size + 1 from fun q hq => by have := HTa.out.b.bd q hq; omega)
          have HT6 := Lib.hid (HT5.out.wrote HK6.out (fun q e => ⟨fun h => by have := HBC.out q h; omega, fun h => by have := HBD.out q h; omega, by omega⟩))
          have HY6 := Lib.hid (HY5.out.below (HK6.out.below (B := w.heap.size) (by omega) (fun q _ e => by omega)))
          have HC6 := Lib.hid (HC5.out.kept HK6.out (by omega))
          refine (jAppend w6 (by omega) (HT.out.below HT6.out.bl hw) g C J HT6.out.a hjf op.kind A6 k3 c6 w6.heap.size op.body HO6.out.bytes (Nat.le_refl _) hk3 hjr).mono ?_
          rintro e w7 ⟨rfl, hJ7, hK7⟩
          have HT7 := Lib.hid (HT6.out.first hJ7 hK7)
          have HO7 := Lib.hid (HO6.out.apart hK7 (fun q hq h => by have := HAB.out q hq; have := HBC.out q h; omega))
          have HC7 := HC6.out.kept hK7 HOC.out
          have HY7 := Lib.hid (HY6.out.below (hK7.below (B := w.heap.size) HT6.out.size (fun q _ hq => HT6.out.lc q hq)))
          have HNC := Lib.hid (show ∀ q, A6.map (·.block) = some q → ¬ since w6 C w7 q from fun q hq h => by
            have h1 := HAB.out q hq
            rcases h with h | h
            · have := HBC.out q h; omega
            · omega)
          have hz7 := hK7.size
          clear hJ7 hK7 z0 z1 z2 z3
          obtain ⟨y0, y1, y2, y3⟩ := HC7.cells
          clear HC7
          generalize since w6 C w7 = C8 at *
          go_wp2_with fail
          refine (refAppend w7 g' D J HT7.out.b hjf op.kind A3 k3 d3 w.heap.size op.body HY7.out HT7.out.size hk3 hjr).mono ?_
          rintro e w8a ⟨rfl, hJ8, hK8⟩
          have HT8a := Lib.hid (HT7.out.second hJ8 hK8)
          have HR8 := Lib.hid ((HO7.out.apart hK8 (fun q hq h => by have := HAB.out q hq; have := HBD.out q h; omega)).rowU)
          have HN8 := Lib.hid (show ∀ q, A6.map (·.block) = some q → ¬ C8 q ∧ ¬ since w7 D w8a q ∧ w.heap.size ≤ q from fun q hq => by
            have h1 := HAB.out q hq
            refine ⟨HNC.out q hq, fun h => ?_, by omega⟩
            rcases h with h | h
            · have := HBD.out q h; omega
            · omega)
          have HF8 := Lib.hid (show (J.append op.kind op.body).2.fits ∧ (J.append op.kind op.body).2.size ≤ opsW (l.take (k + 1)) ∧ (J.append op.kind op.body).2.size ≤ 200000 from ⟨append_fits HFJ.out _ _, by have := HSJ.out; have := append_opW' J op; omega, by have := HSJ.out; have := append_opW' J op; omega⟩)
          clear hJ8 hK8 y0 y1 y2 y3 HT6 HT7 HO6 HO7 HG6 HA6 HK6 HC5 HC6 HY5 HY6 HY7 HT5 HE5 HAB HBC HBD HNC hz5 hz6 hz7 hwa
          generalize since w7 D w8a = D8 at *
          obtain ⟨x, hx⟩ : ∃ x, x = (J.append op.kind op.body).1 := ⟨_, rfl⟩
          rw [← hx]
          clear hx
          generalize (J.append op.kind op.body).2 = J8 at *
          go_wp2_with fail
          go_loopw [12] (fun s wS => ∃ j : Nat, j ≤ k3 ∧ s = .int .i64 (j : Int) ∧ RowU wS wo.heap.size A6 k3 c6 ∧ Kept (fun q => A6.map (·.block) = some q) w8a wS) (fun s _ => k3 - (intOf s).toNat)
          case atStart => exact ⟨0, Nat.zero_le _, rfl, HR8.out, Kept.refl _ _⟩
          case round =>
            obtain ⟨j, hj, rfl, hrow, hkp⟩ := hrel
            by_cases hjn : j < k3
            · obtain ⟨gA, z, rfl, hgb, hnc, fz, zz, hset⟩ := hrow.at_ hjn
              have HS1 := Lib.hid (hset (IntKind.u8.wrap (z + 1)))
              have HS2 := Lib.hid (hkp.setCell (p := ⟨gA, j, none⟩) (fun _ => rfl) (.int .u8 (IntKind.u8.wrap (z + 1))))
              clear hrow hkp hset
              go_wp2
              go_roundw
              case rel => exact ⟨j + 1, by omega, by go_num, by first | exact HS1.out | (simpa using HS1.out), by first | exact HS2.out | (simpa using HS2.out)⟩
              case measure => simp [intOf]; omega
            · obtain rfl : j = k3 := by omega
              obtain ⟨w8, rfl⟩ : ∃ w8, w8 = wr := ⟨_, rfl⟩
              have HT8 := Lib.hid (HT8a.out.wrote hkp HN8.out)
              clear hrow hkp HT8a HR8 HN8
              obtain ⟨A1, n1, c1, A2, n2, c2, hb8⟩ := HT8.out.b
              have hlk := hb8.kept.len
              have hlr := hb8.rest.len
              have hsz8 : n1 + n2 ≤ 200000 := by have := HF8.out.2.2; unfold JV.size at this; omega
              have HD3 := Lib.hid (show ∀ W, Below w8.heap.size w8 W → W.cell? ⟨g', 3, none⟩ = some (.bool J8.down) from fun W hb => (hb.cell (p := ⟨g', 3, none⟩) hb8.lt).trans hb8.cell3)
              have HD0 := Lib.hid (show ∀ W, Below w8.heap.size w8 W → W.cell? ⟨g', 0, none⟩ = some (.slice A1 n1 c1) from fun W hb => (hb.cell (p := ⟨g', 0, none⟩) hb8.lt).trans hb8.cell0)
              have HD1 := Lib.hid (show ∀ W, Below w8.heap.size w8 W → W.cell? ⟨g', 1, none⟩ = some (.slice A2 n2 c2) from fun W hb => (hb.cell (p := ⟨g', 1, none⟩) hb8.lt).trans hb8.cell1)
              have HV0 := Lib.hid (show ∀ W, Below w8.heap.size w8 W → (convert 23 9 (.slice A1 n1 c1)).run Tryd.prog W = .ok (.string (str J8.kept)) W from fun W hb => conv_str (hb8.kept.bytes.below hb) c1)
              have HV1 := Lib.hid (show ∀ W, Below w8.heap.size w8 W → (convert 23 9 (.slice A2 n2 c2)).run Tryd.prog W = .ok (.string (str J8.rest)) W from fun W hb => conv_str (hb8.rest.bytes.below hb) c2)
              have HQ65 := Lib.hid (jDown w8.drew g C8 J8 (HT8.out.a.later (Below.refl _ w8).drew))
              have HQ60 := Lib.hid (show ∀ W, Below w8.heap.size w8 W → Calls Tryd.prog 60 #[.pointer (some ⟨g, 0, none⟩)] W (Copied W n1 J8.kept) from fun W hb => by have := jSynced W g C8 J8 (HT8.out.a.later hb) (by omega); rwa [hlk] at this)
              have HQ61 := Lib.hid (show ∀ W, Below w8.heap.size w8 W → Calls Tryd.prog 61 #[.pointer (some ⟨g, 0, none⟩)] W (Copied W n2 J8.rest) from fun W hb => by have := jTail W g C8 J8 (HT8.out.a.later hb) (by omega); rwa [hlr] at this)
              have HB0 : Hid (Below w8.heap.size w8 w8.drew) := Lib.hid (Below.refl _ w8).drew
              obtain ⟨s0, hs0⟩ : ∃ s, s = str J8.kept := ⟨_, rfl⟩
              obtain ⟨s1, hs1⟩ : ∃ s, s = str J8.rest := ⟨_, rfl⟩
              rw [← hs0] at HV0
              rw [← hs1] at HV1
              have HE0 := Lib.hid hs0
              have HE1 := Lib.hid hs1
              clear hs0 hs1
              generalize J8.down = dn at *
              clear hb8 hlk hlr
              go_wp2_with fail
              refine region_L (fun w' => Below w8.heap.size w8 w') [] (by kernel_rfl) ?_
              simp only [List.size_toArray, List.length_cons, List.length_nil, Nat.reduceAdd, Array.replicate_succ, Array.replicate_zero]
              refine wpAnyG_take (i := 0) (d := some 131) (v := .bool true) rfl rfl (by kernel_rfl) (by kernel_rfl) (by kernel_rfl) (by kernel_rfl) (by kernel_rfl) (fun _ _ _ h => h) (by rfl) (fun w' h => by go_simp) HB0.out ?_
              simp only [Act.put, List.setIfInBounds_toArray, List.set_cons_zero, List.set_cons_succ]
              refine wpAnyG_take (i := 1) (d := some 132) (v := .bool false) rfl rfl (by kernel_rfl) (by kernel_rfl) (by kernel_rfl) (by kernel_rfl) (by kernel_rfl) (fun _ _ _ h => h) (by rfl) (fun w' h => by go_simp) HB0.out ?_
              simp only [Act.put, List.setIfInBounds_toArray, List.set_cons_zero, List.set_cons_succ]
              refine wpAnyG_take (i := 2) (d := some 133) (v := .bool false) rfl rfl (by kernel_rfl) (by kernel_rfl) (by kernel_rfl) (by kernel_rfl) (by kernel_rfl) (fun _ _ _ h => h) (by rfl) (fun w' h => by go_simp) HB0.out ?_
              simp only [Act.put, List.setIfInBounds_toArray, List.set_cons_zero, List.set_cons_succ]
              refine wpAnyG_take (i := 3) (d := some 134) (v := .int .i64 x) rfl rfl (by kernel_rfl) (by kernel_rfl) (by kernel_rfl) (by kernel_rfl) (by kernel_rfl) (fun _ _ _ h => h) (by rfl) (fun w' h => by go_simp) HB0.out ?_
              simp only [Act.put, List.setIfInBounds_toArray, List.set_cons_zero, List.set_cons_succ]
              refine wpAnyG_take (i := 4) (d := some 135) (v := .int .i64 x) rfl rfl (by kernel_rfl) (by kernel_rfl) (by kernel_rfl) (by kernel_rfl) (by kernel_rfl) (fun _ _ _ h => h) (by rfl) (fun w' h => by go_simp) HB0.out ?_
              simp only [Act.put, List.setIfInBounds_toArray, List.set_cons_zero, List.set_cons_succ]
              refine wpAnyG_take (i := 5) (d := some 136) (v := .bool false) rfl rfl (by kernel_rfl) (by kernel_rfl) (by kernel_rfl) (by kernel_rfl) (by kernel_rfl) (fun _ _ _ h => h) (by rfl) (fun w' h => by go_simp) HB0.out ?_
              simp only [Act.put, List.setIfInBounds_toArray, List.set_cons_zero, List.set_cons_succ]
              refine wpAnyG_take (i := 6) (d := some 137) (v := .bool false) rfl rfl (by kernel_rfl) (by kernel_rfl) (by kernel_rfl) (by kernel_rfl) (by kernel_rfl) (fun _ _ _ h => h) (by rfl) (fun w' h => by go_simp) HB0.out ?_
              simp only [Act.put, List.setIfInBounds_toArray, List.set_cons_zero, List.set_cons_succ]
              refine wpAnyG_take (i := 7) (d := some 138) (v := .bool false) rfl rfl (by kernel_rfl) (by kernel_rfl) (by kernel_rfl) (by kernel_rfl) (by kernel_rfl) (fun _ _ _ h => h) (by rfl) (fun w' h => by go_simp) HB0.out ?_
              simp only [Act.put, List.setIfInBounds_toArray, List.set_cons_zero, List.set_cons_succ]
              refine wpAnyG_take (i := 8) (d := some 139) (v := .pointer (some ⟨g, 0, none⟩)) rfl rfl (by kernel_rfl) (by kernel_rfl) (by kernel_rfl) (by kernel_rfl) (by kernel_rfl) (fun _ _ _ h => h) (by rfl) (fun w' h => by go_simp) HB0.out ?_
              simp only [Act.put, List.setIfInBounds_toArray, List.set_cons_zero, List.set_cons_succ]
              refine wpAnyG_take (i := 10) (d := some 141) (v := .pointer (some ⟨g', 0, none⟩)) rfl rfl (by kernel_rfl) (by kernel_rfl) (by kernel_rfl) (by kernel_rfl) (by kernel_rfl) (fun _ _ _ h => h) (by rfl) (fun w' h => by go_simp) HB0.out ?_
              simp only [Act.put, List.setIfInBounds_toArray, List.set_cons_zero, List.set_cons_succ]
              refine wpAnyG_take (i := 11) (d := some 142) (v := .pointer (some ⟨g', 0, none⟩)) rfl rfl (by kernel_rfl) (by kernel_rfl) (by kernel_rfl) (by kernel_rfl) (by kernel_rfl) (fun _ _ _ h => h) (by rfl) (fun w' h => by go_simp) HB0.out ?_
              simp only [Act.put, List.setIfInBounds_toArray, List.set_cons_zero, List.set_cons_succ]
              refine wpAnyG_take (i := 12) (d := some 143) (v := .pointer (some ⟨g', 3, none⟩)) rfl rfl (by kernel_rfl) (by kernel_rfl) (by kernel_rfl) (by kernel_rfl) (by kernel_rfl) (fun _ _ _ h => h) (by rfl) (fun w' h => by go_simp) HB0.out ?_
              simp only [Act.put, List.setIfInBounds_toArray, List.set_cons_zero, List.set_cons_succ]
              refine wpAnyG_take (i := 13) (d := some 144) (v := .bool dn) rfl rfl (by kernel_rfl) (by kernel_rfl) (by kernel_rfl) (by kernel_rfl) (by kernel_rfl) (fun _ _ _ h => h) (by rfl) (fun w' h => by have := HD3.out w' h; go_simp) HB0.out ?_
              simp only [Act.put, List.setIfInBounds_toArray, List.set_cons_zero, List.set_cons_succ]
              refine wpAnyG_one (i := 9) (by kernel_rfl) rfl (by rfl) ?_
              refine wp_hide (fun K' hK' => ?_)
              go_simp
              refine HQ65.out.mono ?_
              rintro e w' ⟨rfl, rfl⟩
              refine hK' _ _ ⟨fun _ => HB0.out, ?_⟩
              clear hK' K'
              refine wpAnyG_take (i := 14) (d := some 145) (v := .bool false) rfl rfl (by kernel_rfl) (by kernel_rfl) (by kernel_rfl) (by kernel_rfl) (by kernel_rfl) (fun _ _ _ h => h) (by rfl) (fun w' h => by go_simp) HB0.out ?_
              simp only [Act.put, List.setIfInBounds_toArray, List.set_cons_zero, List.set_cons_succ]
              refine wpAnyG_take (i := 15) (d := some 146) (v := .bool false) rfl rfl (by kernel_rfl) (by kernel_rfl) (by kernel_rfl) (by kernel_rfl) (by kernel_rfl) (fun _ _ _ h => h) (by rfl) (fun w' h => by go_simp) HB0.out ?_
              simp only [Act.put, List.setIfInBounds_toArray, List.set_cons_zero, List.set_cons_succ]
              refine wpAnyG_take (i := 16) (d := some 147) (v := .bool false) rfl rfl (by kernel_rfl) (by kernel_rfl) (by kernel_rfl) (by kernel_rfl) (by kernel_rfl) (fun _ _ _ h => h) (by rfl) (fun w' h => by go_simp) HB0.out ?_
              simp only [Act.put, List.setIfInBounds_toArray, List.set_cons_zero, List.set_cons_succ]
              refine wpAnyG_take (i := 17) (d := some 148) (v := .pointer (some ⟨g, 0, none⟩)) rfl rfl (by kernel_rfl) (by kernel_rfl) (by kernel_rfl) (by kernel_rfl) (by kernel_rfl) (fun _ _ _ h => h) (by rfl) (fun w' h => by go_simp) HB0.out ?_
              simp only [Act.put, List.setIfInBounds_toArray, List.set_cons_zero, List.set_cons_succ]
              refine wpAnyG_take (i := 20) (d := some 151) (v := .pointer (some ⟨g', 0, none⟩)) rfl rfl (by kernel_rfl) (by kernel_rfl) (by kernel_rfl) (by kernel_rfl) (by kernel_rfl) (fun _ _ _ h => h) (by rfl) (fun w' h => by go_simp) HB0.out ?_
              simp only [Act.put, List.setIfInBounds_toArray, List.set_cons_zero, List.set_cons_succ]
              refine wpAnyG_take (i := 21) (d := some 152) (v := .pointer (some ⟨g', 0, none⟩)) rfl rfl (by kernel_rfl) (by kernel_rfl) (by kernel_rfl) (by kernel_rfl) (by kernel_rfl) (fun _ _ _ h => h) (by rfl) (fun w' h => by go_simp) HB0.out ?_
              simp only [Act.put, List.setIfInBounds_toArray, List.set_cons_zero, List.set_cons_succ]
              refine wpAnyG_take (i := 22) (d := some 153) (v := .pointer (some ⟨g', 0, none⟩)) rfl rfl (by kernel_rfl) (by kernel_rfl) (by kernel_rfl) (by kernel_rfl) (by kernel_rfl) (fun _ _ _ h => h) (by rfl) (fun w' h => by go_simp) HB0.out ?_
              simp only [Act.put, List.setIfInBounds_toArray, List.set_cons_zero, List.set_cons_succ]
              refine wpAnyG_take (i := 23) (d := some 154) (v := .slice A1 n1 c1) rfl rfl (by kernel_rfl) (by kernel_rfl) (by kernel_rfl) (by kernel_rfl) (by kernel_rfl) (fun _ _ _ h => h) (by rfl) (fun w' h => by have := HD0.out w' h; go_simp) HB0.out ?_
              simp only [Act.put, List.setIfInBounds_toArray, List.set_cons_zero, List.set_cons_succ]
              refine wpAnyG_take (i := 24) (d := some 155) (v := .string s0) rfl rfl (by kernel_rfl) (by kernel_rfl) (by kernel_rfl) (by kernel_rfl) (by kernel_rfl) (fun _ _ _ h => h) (by rfl) (fun w' h => by have := HV0.out w' h; go_simp) HB0.out ?_
              simp only [Act.put, List.setIfInBounds_toArray, List.set_cons_zero, List.set_cons_succ]
              refine wpAnyG_one (i := 18) (by kernel_rfl) rfl (by rfl) ?_
              refine wp_hide (fun K' hK' => ?_)
              go_simp
              refine (HQ60.out _ HB0.out).mono ?_
              rintro e w9 ⟨A9, c9, rfl, ho9, hb9⟩
              have hb89 := HB0.out.trans (hb9.mono HB0.out.size)
              have hcv9 := conv_str ho9.bytes c9
              rw [← HE0.out] at hcv9
              have HB9 := Lib.hid hb89
              refine hK' _ _ ⟨fun _ => HB9.out, ?_⟩
              clear hK' K' ho9 hb9 hb89
              refine wpAnyG_one (i := 19) (by kernel_rfl) rfl (by rfl) ?_
              refine wp_value (some 150) rfl (v := .string s0) (w1 := w9) (by go_simp) ⟨fun _ => HB9.out, ?_⟩
              simp only [Act.put, List.setIfInBounds_toArray, List.set_cons_zero, List.set_cons_succ]
              clear hcv9
              refine wpAnyG_take (i := 25) (d := some 156) (v := .bool false) rfl rfl (by kernel_rfl) (by kernel_rfl) (by kernel_rfl) (by kernel_rfl) (by kernel_rfl) (fun _ _ _ h => h) (by rfl) (fun w' h => by go_simp) HB9.out ?_
              simp only [Act.put, List.setIfInBounds_toArray, List.set_cons_zero, List.set_cons_succ]
              refine wpAnyG_take (i := 26) (d := some 157) (v := .bool false) rfl rfl (by kernel_rfl) (by kernel_rfl) (by kernel_rfl) (by kernel_rfl) (by kernel_rfl) (fun _ _ _ h => h) (by rfl) (fun w' h => by go_simp) HB9.out ?_
              simp only [Act.put, List.setIfInBounds_toArray, List.set_cons_zero, List.set_cons_succ]
              refine wpAnyG_take (i := 27) (d := some 158) (v := .bool false) rfl rfl (by kernel_rfl) (by kernel_rfl) (by kernel_rfl) (by kernel_rfl) (by kernel_rfl) (fun _ _ _ h => h) (by rfl) (fun w' h => by go_simp) HB9.out ?_
              simp only [Act.put, List.setIfInBounds_toArray, List.set_cons_zero, List.set_cons_succ]
              refine wpAnyG_take (i := 28) (d := some 159) (v := .pointer (some ⟨g, 0, none⟩)) rfl rfl (by kernel_rfl) (by kernel_rfl) (by kernel_rfl) (by kernel_rfl) (by kernel_rfl) (fun _ _ _ h => h) (by rfl) (fun w' h => by go_simp) HB9.out ?_
              simp only [Act.put, List.setIfInBounds_toArray, List.set_cons_zero, List.set_cons_succ]
              refine wpAnyG_take (i := 31) (d := some 162) (v := .pointer (some ⟨g', 0, none⟩)) rfl rfl (by kernel_rfl) (by kernel_rfl) (by kernel_rfl) (by kernel_rfl) (by kernel_rfl) (fun _ _ _ h => h) (by rfl) (fun w' h => by go_simp) HB9.out ?_
              simp only [Act.put, List.setIfInBounds_toArray, List.set_cons_zero, List.set_cons_succ]
              refine wpAnyG_take (i := 32) (d := some 163) (v := .pointer (some ⟨g', 0, none⟩)) rfl rfl (by kernel_rfl) (by kernel_rfl) (by kernel_rfl) (by kernel_rfl) (by kernel_rfl) (fun _ _ _ h => h) (by rfl) (fun w' h => by go_simp) HB9.out ?_
              simp only [Act.put, List.setIfInBounds_toArray, List.set_cons_zero, List.set_cons_succ]
              refine wpAnyG_take (i := 33) (d := some 164) (v := .pointer (some ⟨g', 1, none⟩)) rfl rfl (by kernel_rfl) (by kernel_rfl) (by kernel_rfl) (by kernel_rfl) (by kernel_rfl) (fun _ _ _ h => h) (by rfl) (fun w' h => by go_simp) HB9.out ?_
              simp only [Act.put, List.setIfInBounds_toArray, List.set_cons_zero, List.set_cons_succ]
              refine wpAnyG_take (i := 34) (d := some 165) (v := .slice A2 n2 c2) rfl rfl (by kernel_rfl) (by kernel_rfl) (by kernel_rfl) (by kernel_rfl) (by kernel_rfl) (fun _ _ _ h => h) (by rfl) (fun w' h => by have := HD1.out w' h; go_simp) HB9.out ?_
              simp only [Act.put, List.setIfInBounds_toArray, List.set_cons_zero, List.set_cons_succ]
              refine wpAnyG_take (i := 35) (d := some 166) (v := .string s1) rfl rfl (by kernel_rfl) (by kernel_rfl) (by kernel_rfl) (by kernel_rfl) (by kernel_rfl) (fun _ _ _ h => h) (by rfl) (fun w' h => by have := HV1.out w' h; go_simp) HB9.out ?_
              simp only [Act.put, List.setIfInBounds_toArray, List.set_cons_zero, List.set_cons_succ]
              refine wpAnyG_one (i := 29) (by kernel_rfl) rfl (by rfl) ?_
              refine wp_hide (fun K' hK' => ?_)
              go_simp
              refine (HQ61.out _ HB9.out).mono ?_
              rintro e w10 ⟨A10, c10, rfl, ho10, hb10⟩
              have hb810 := HB9.out.trans (hb10.mono HB9.out.size)
              have hcv10 := conv_str ho10.bytes c10
              rw [← HE1.out] at hcv10
              have HB10 := Lib.hid hb810
              refine hK' _ _ ⟨fun _ => HB10.out, ?_⟩
              clear hK' K' ho10 hb10 hb810
              refine wpAnyG_one (i := 30) (by kernel_rfl) rfl (by rfl) ?_
              refine wp_value (some 161) rfl (v := .string s1) (w1 := w10) (by go_simp) ⟨fun _ => HB10.out, ?_⟩
              simp only [Act.put, List.setIfInBounds_toArray, List.set_cons_zero, List.set_cons_succ]
              clear hcv10
              refine wpAnyG_take (i := 36) (d := some 167) (v := .bool false) rfl rfl (by kernel_rfl) (by kernel_rfl) (by kernel_rfl) (by kernel_rfl) (by kernel_rfl) (fun _ _ _ h => h) (by rfl) (fun w' h => by go_simp) HB10.out ?_
              simp only [Act.put, List.setIfInBounds_toArray, List.set_cons_zero, List.set_cons_succ]
              refine wpAnyG_take (i := 37) (d := some 168) (v := .bool false) rfl rfl (by kernel_rfl) (by kernel_rfl) (by kernel_rfl) (by kernel_rfl) (by kernel_rfl) (fun _ _ _ h => h) (by rfl) (fun w' h => by go_simp) HB10.out ?_
              simp only [Act.put, List.setIfInBounds_toArray, List.set_cons_zero, List.set_cons_succ]
              refine wpAnyL_done (by kernel_rfl) ?_ _
              have HP := Lib.hid (show PlayAt w g g' (opsW (l.take (k + 1))) w10 from ⟨_, _, J8, HT8.out.later HB10.out, HF8.out.1, HF8.out.2.1⟩)
              clear HT8 HF8 HD3 HD0 HD1 HV0 HV1 HQ65 HQ60 HQ61 HB0 HB9 HB10
              go_wp2
              go_roundw
              case rel => exact ⟨k + 1, by omega, by go_num, HP.out⟩
              case measure => simp [intOf]; omega
      · as_aux_lemma =>
          have hcc := HCP.out.cells
          obtain ⟨y0, y1, y2, y3⟩ := hcc
          have hz5 : ((wo.alloc (.cells #[.int .i64 op.what, .int .u8 (op.kind.toNat : Int), .slice A3 k3 d3, .int .i64 op.num] 80)).alloc (.cells #[] 5)).heap.size = wo.heap.size + 2 := by simp
          have hE5 := OwnB.empty (wo.alloc (.cells #[.int .i64 op.what, .int .u8 (op.kind.toNat : Int), .slice A3 k3 d3, .int .i64 op.num] 80)) wo.heap.size (wo.heap.size + 1) hsz.symm (by omega)
          have hB5 := (Below.refl wo.heap.size (wo.alloc (.cells #[.int .i64 op.what, .int .u8 (op.kind.toNat : Int), .slice A3 k3 d3, .int .i64 op.num] 80))).alloc (by simp) (.cells #[] 5)
          have hB5' := (Below.refl (wo.alloc (.cells #[.int .i64 op.what, .int .u8 (op.kind.toNat : Int), .slice A3 k3 d3, .int .i64 op.num] 80)).heap.size (wo.alloc (.cells #[.int .i64 op.what, .int .u8 (op.kind.toNat : Int), .slice A3 k3 d3, .int .i64 op.num] 80))).alloc (Nat.le_refl _) (.cells #[] 5)
          have hc5 := HCP.out.later hB5'
          obtain ⟨x0, x1, x2, x3⟩ := hc5.cells
          have HT5 := Lib.hid (HTa.out.later hB5')
          have HY5 := Lib.hid (HY.out.below (hB5'.mono (by simp; omega)))
          have HE5 := Lib.hid hE5
          have HC5 := Lib.hid hc5
          clear hE5 hB5 hB5' hc5 hcp
          go_wp2_with (at_builtin; refine wpList_append_bytes rfl (.tmp 45) (.tmp 47) rfl rfl HE5.out rfl HY5.out (by omega) (by omega) ?_; intro A6 c6 w6 ho6 hg6 hat6; simp only [Nat.zero_add, List.nil_append] at ho6; have HO6 := Lib.hid ho6; have HG6 := Lib.hid hg6; have HA6 := Lib.hid hat6; clear ho6 hg6 hat6; have hK6 : Kept (fun q => q = wo.heap.size + 1) ((wo.alloc (.cells #[.int .i64 op.what, .int .u8 (op.kind.toNat : Int), .slice A3 k3 d3, .int .i64 op.num] 80)).alloc (.cells #[] 5)) w6 := (Kept.refl _ _).grown HG6.out (fun q e _ => (Option.some.inj e).symm); have HK6 := Lib.hid hK6; clear hK6; have hcp6 := HC5.out.kept HK6.out (by omega); obtain ⟨z0, z1, z2, z3⟩ := hcp6.cells; clear hcp6 x0 x1 x2 x3 y0 y1 y2 y3)
          have hz6 : wo.heap.size + 2 ≤ w6.heap.size := by have := HG6.out.size; omega
          have hwa := hsz
          have HAB := Lib.hid (show ∀ q, A6.map (·.block) = some q → wo.heap.size + 1 ≤ q ∧ q < w6.heap.size from fun q hq => by
            refine ⟨?_, ?_⟩
            · rcases HA6.out with e | e
              · rw [e] at hq; simp at hq; omega
              · rw [e] at hq; simp at hq; omega
            · rcases HO6.out.map_form with e | ⟨q', _, e, _, hlt, _⟩
              · rw [e] at hq; cases hq
              · rw [e] at hq; cases hq; exact hlt)
          have HBC := Lib.hid (show ∀ q, C q → q < wo.heap.size + 1 from fun q hq => by have := HTa.out.a.bd q hq; omega)
          have HBD := Lib.hid (show ∀ q, D q → q < wo.heap.size + 1 from fun q hq => by have := HTa.out.b.bd q hq; omega)
          have HT6 := Lib.hid (HT5.out.wrote HK6.out (fun q e => ⟨fun h => by have := HBC.out q h; omega, fun h => by have := HBD.out q h; omega, by omega⟩))
          have HY6 := Lib.hid (HY5.out.below (HK6.out.below (B := w.heap.size) (by omega) (fun q _ e => by omega)))
          have HC6 := Lib.hid (HC5.out.kept HK6.out (by omega))
          refine (jAppend w6 (by omega) (HT.out.below HT6.out.bl hw) g C J HT6.out.a hjf op.kind A6 k3 c6 w6.heap.size op.body HO6.out.bytes (Nat.le_refl _) hk3 hjr).mono ?_
          rintro e w7 ⟨rfl, hJ7, hK7⟩
          have HT7 := Lib.hid (HT6.out.first hJ7 hK7)
          have HO7 := Lib.hid (HO6.out.apart hK7 (fun q hq h => by have := HAB.out q hq; have := HBC.out q h; omega))
          have HC7 := HC6.out.kept hK7 HOC.out
          have HY7 := Lib.hid (HY6.out.below (hK7.below (B := w.heap.size) HT6.out.size (fun q _ hq => HT6.out.lc q hq)))
          have HNC := Lib.hid (show ∀ q, A6.map (·.block) = some q → ¬ since w6 C w7 q from fun q hq h => by
            have h1 := HAB.out q hq
            rcases h with h | h
            · have := HBC.out q h; omega
            · omega)
          have hz7 := hK7.size
          clear hJ7 hK7 z0 z1 z2 z3
          obtain ⟨y0, y1, y2, y3⟩ := HC7.cells
          clear HC7
          generalize since w6 C w7 = C8 at *
          go_wp2_with fail
          refine (refAppend w7 g' D J HT7.out.b hjf op.kind A3 k3 d3 w.heap.size op.body HY7.out HT7.out.size hk3 hjr).mono ?_
          rintro e w8a ⟨rfl, hJ8, hK8⟩
          have HT8a := Lib.hid (HT7.out.second hJ8 hK8)
          have HR8 := Lib.hid ((HO7.out.apart hK8 (fun q hq h => by have := HAB.out q hq; have := HBD.out q h; omega)).rowU)
          have HN8 := Lib.hid (show ∀ q, A6.map (·.block) = some q → ¬ C8 q ∧ ¬ since w7 D w8a q ∧ w.heap.size ≤ q from fun q hq => by
            have h1 := HAB.out q hq
            refine ⟨HNC.out q hq, fun h => ?_, by omega⟩
            rcases h with h | h
            · have := HBD.out q h; omega
            · omega)
          have HF8 := Lib.hid (show (J.append op.kind op.body).2.fits ∧ (J.append op.kind op.body).2.size ≤ opsW (l.take (k + 1)) ∧ (J.append op.kind op.body).2.size ≤ 200000 from ⟨append_fits HFJ.out _ _, by have := HSJ.out; have := append_opW' J op; omega, by have := HSJ.out; have := append_opW' J op; omega⟩)
          clear hJ8 hK8 y0 y1 y2 y3 HT6 HT7 HO6 HO7 HG6 HA6 HK6 HC5 HC6 HY5 HY6 HY7 HT5 HE5 HAB HBC HBD HNC hz5 hz6 hz7 hwa
          generalize since w7 D w8a = D8 at *
          obtain ⟨x, hx⟩ : ∃ x, x = (J.append op.kind op.body).1 := ⟨_, rfl⟩
          rw [← hx]
          clear hx
          generalize (J.append op.kind op.body).2 = J8 at *
          go_wp2_with fail
          go_loopw [12] (fun s wS => ∃ j : Nat, j ≤ k3 ∧ s = .int .i64 (j : Int) ∧ RowU wS wo.heap.size A6 k3 c6 ∧ Kept (fun q => A6.map (·.block) = some q) w8a wS) (fun s _ => k3 - (intOf s).toNat)
          case atStart => exact ⟨0, Nat.zero_le _, rfl, HR8.out, Kept.refl _ _⟩
          case round =>
            obtain ⟨j, hj, rfl, hrow, hkp⟩ := hrel
            by_cases hjn : j < k3
            · obtain ⟨gA, z, rfl, hgb, hnc, fz, zz, hset⟩ := hrow.at_ hjn
              have HS1 := Lib.hid (hset (IntKind.u8.wrap (z + 1)))
              have HS2 := Lib.hid (hkp.setCell (p := ⟨gA, j, none⟩) (fun _ => rfl) (.int .u8 (IntKind.u8.wrap (z + 1))))
              clear hrow hkp hset
              go_wp2
              go_roundw
              case rel => exact ⟨j + 1, by omega, by go_num, by first | exact HS1.out | (simpa using HS1.out), by first | exact HS2.out | (simpa using HS2.out)⟩
              case measure => simp [intOf]; omega
            · obtain rfl : j = k3 := by omega
              obtain ⟨w8, rfl⟩ : ∃ w8, w8 = wr := ⟨_, rfl⟩
              have HT8 := Lib.hid (HT8a.out.wrote hkp HN8.out)
              clear hrow hkp HT8a HR8 HN8
              obtain ⟨A1, n1, c1, A2, n2, c2, hb8⟩ := HT8.out.b
              have hlk := hb8.kept.len
              have hlr := hb8.rest.len
              have hsz8 : n1 + n2 ≤ 200000 := by have := HF8.out.2.2; unfold JV.size at this; omega
              have HD3 := Lib.hid (show ∀ W, Below w8.heap.size w8 W → W.cell? ⟨g', 3, none⟩ = some (.bool J8.down) from fun W hb => (hb.cell (p := ⟨g', 3, none⟩) hb8.lt).trans hb8.cell3)
              have HD0 := Lib.hid (show ∀ W, Below w8.heap.size w8 W → W.cell? ⟨g', 0, none⟩ = some (.slice A1 n1 c1) from fun W hb => (hb.cell (p := ⟨g', 0, none⟩) hb8.lt).trans hb8.cell0)
              have HD1 := Lib.hid (show ∀ W, Below w8.heap.size w8 W → W.cell? ⟨g', 1, none⟩ = some (.slice A2 n2 c2) from fun W hb => (hb.cell (p := ⟨g', 1, none⟩) hb8.lt).trans hb8.cell1)
              have HV0 := Lib.hid (show ∀ W, Below w8.heap.size w8 W → (convert 23 9 (.slice A1 n1 c1)).run Tryd.prog W = .ok (.string (str J8.kept)) W from fun W hb => conv_str (hb8.kept.bytes.below hb) c1)
              have HV1 := Lib.hid (show ∀ W, Below w8.heap.size w8 W → (convert 23 9 (.slice A2 n2 c2)).run Tryd.prog W = .ok (.string (str J8.rest)) W from fun W hb => conv_str (hb8.rest.bytes.below hb) c2)
              have HQ65 := Lib.hid (jDown w8.drew g C8 J8 (HT8.out.a.later (Below.refl _ w8).drew))
              have HQ60 := Lib.hid (show ∀ W, Below w8.heap.size w8 W → Calls Tryd.prog 60 #[.pointer (some ⟨g, 0, none⟩)] W (Copied W n1 J8.kept) from fun W hb => by have := jSynced W g C8 J8 (HT8.out.a.later hb) (by omega); rwa [hlk] at this)
              have HQ61 := Lib.hid (show ∀ W, Below w8.heap.size w8 W → Calls Tryd.prog 61 #[.pointer (some ⟨g, 0, none⟩)] W (Copied W n2 J8.rest) from fun W hb => by have := jTail W g C8 J8 (HT8.out.a.later hb) (by omega); rwa [hlr] at this)
              have HB0 : Hid (Below w8.heap.size w8 w8.drew) := Lib.hid (Below.refl _ w8).drew
              obtain ⟨s0, hs0⟩ : ∃ s, s = str J8.kept := ⟨_, rfl⟩
              obtain ⟨s1, hs1⟩ : ∃ s, s = str J8.rest := ⟨_, rfl⟩
              rw [← hs0] at HV0
              rw [← hs1] at HV1
              have HE0 := Lib.hid hs0
              have HE1 := Lib.hid hs1
              clear hs0 hs1
              generalize J8.down = dn at *
              clear hb8 hlk hlr
              go_wp2_with fail
              refine region_L (fun w' => Below w8.heap.size w8 w') [] (by kernel_rfl) ?_
              simp only [List.size_toArray, List.length_cons, List.length_nil, Nat.reduceAdd, Array.replicate_succ, Array.replicate_zero]
              refine wpAnyG_take (i := 0) (d := some 131) (v := .bool true) rfl rfl (by kernel_rfl) (by kernel_rfl) (by kernel_rfl) (by kernel_rfl) (by kernel_rfl) (fun _ _ _ h => h) (by rfl) (fun w' h => by go_simp) HB0.out ?_
              simp only [Act.put, List.setIfInBounds_toArray, List.set_cons_zero, List.set_cons_succ]
              refine wpAnyG_take (i := 1) (d := some 132) (v := .bool false) rfl rfl (by kernel_rfl) (by kernel_rfl) (by kernel_rfl) (by kernel_rfl) (by kernel_rfl) (fun _ _ _ h => h) (by rfl) (fun w' h => by go_simp) HB0.out ?_
              simp only [Act.put, List.setIfInBounds_toArray, List.set_cons_zero, List.set_cons_succ]
              refine wpAnyG_take (i := 2) (d := some 133) (v := .bool false) rfl rfl (by kernel_rfl) (by kernel_rfl) (by kernel_rfl) (by kernel_rfl) (by kernel_rfl) (fun _ _ _ h => h) (by rfl) (fun w' h => by go_simp) HB0.out ?_
              simp only [Act.put, List.setIfInBounds_toArray, List.set_cons_zero, List.set_cons_succ]
              refine wpAnyG_take (i := 3) (d := some 134) (v := .int .i64 x) rfl rfl (by kernel_rfl) (by kernel_rfl) (by kernel_rfl) (by kernel_rfl) (by kernel_rfl) (fun _ _ _ h => h) (by rfl) (fun w' h => by go_simp) HB0.out ?_
              simp only [Act.put, List.setIfInBounds_toArray, List.set_cons_zero, List.set_cons_succ]
              refine wpAnyG_take (i := 4) (d := some 135) (v := .int .i64 x) rfl rfl (by kernel_rfl) (by kernel_rfl) (by kernel_rfl) (by kernel_rfl) (by kernel_rfl) (fun _ _ _ h => h) (by rfl) (fun w' h => by go_simp) HB0.out ?_
              simp only [Act.put, List.setIfInBounds_toArray, List.set_cons_zero, List.set_cons_succ]
              refine wpAnyG_take (i := 5) (d := some 136) (v := .bool false) rfl rfl (by kernel_rfl) (by kernel_rfl) (by kernel_rfl) (by kernel_rfl) (by kernel_rfl) (fun _ _ _ h => h) (by rfl) (fun w' h => by go_simp) HB0.out ?_
              simp only [Act.put, List.setIfInBounds_toArray, List.set_cons_zero, List.set_cons_succ]
              refine wpAnyG_take (i := 6) (d := some 137) (v := .bool false) rfl rfl (by kernel_rfl) (by kernel_rfl) (by kernel_rfl) (by kernel_rfl) (by kernel_rfl) (fun _ _ _ h => h) (by rfl) (fun w' h => by go_simp) HB0.out ?_
              simp only [Act.put, List.setIfInBounds_toArray, List.set_cons_zero, List.set_cons_succ]
              refine wpAnyG_take (i := 7) (d := some 138) (v := .bool false) rfl rfl (by kernel_rfl) (by kernel_rfl) (by kernel_rfl) (by kernel_rfl) (by kernel_rfl) (fun _ _ _ h => h) (by rfl) (fun w' h => by go_simp) HB0.out ?_
              simp only [Act.put, List.setIfInBounds_toArray, List.set_cons_zero, List.set_cons_succ]
              refine wpAnyG_take (i := 8) (d := some 139) (v := .pointer (some ⟨g, 0, none⟩)) rfl rfl (by kernel_rfl) (by kernel_rfl) (by kernel_rfl) (by kernel_rfl) (by kernel_rfl) (fun _ _ _ h => h) (by rfl) (fun w' h => by go_simp) HB0.out ?_
              simp only [Act.put, List.setIfInBounds_toArray, List.set_cons_zero, List.set_cons_succ]
              refine wpAnyG_take (i := 10) (d := some 141) (v := .pointer (some ⟨g', 0, none⟩)) rfl rfl (by kernel_rfl) (by kernel_rfl) (by kernel_rfl) (by kernel_rfl) (by kernel_rfl) (fun _ _ _ h => h) (by rfl) (fun w' h => by go_simp) HB0.out ?_
              simp only [Act.put, List.setIfInBounds_toArray, List.set_cons_zero, List.set_cons_succ]
              refine wpAnyG_take (i := 11) (d := some 142) (v := .pointer (some ⟨g', 0, none⟩)) rfl rfl (by kernel_rfl) (by kernel_rfl) (by kernel_rfl) (by kernel_rfl) (by kernel_rfl) (fun _ _ _ h => h) (by rfl) (fun w' h => by go_simp) HB0.out ?_
              simp only [Act.put, List.setIfInBounds_toArray, List.set_cons_zero, List.set_cons_succ]
              refine wpAnyG_take (i := 12) (d := some 143) (v := .pointer (some ⟨g', 3, none⟩)) rfl rfl (by kernel_rfl) (by kernel_rfl) (by kernel_rfl) (by kernel_rfl) (by kernel_rfl) (fun _ _ _ h => h) (by rfl) (fun w' h => by go_simp) HB0.out ?_
              simp only [Act.put, List.setIfInBounds_toArray, List.set_cons_zero, List.set_cons_succ]
              refine wpAnyG_take (i := 13) (d := some 144) (v := .bool dn) rfl rfl (by kernel_rfl) (by kernel_rfl) (by kernel_rfl) (by kernel_rfl) (by kernel_rfl) (fun _ _ _ h => h) (by rfl) (fun w' h => by have := HD3.out w' h; go_simp) HB0.out ?_
              simp only [Act.put, List.setIfInBounds_toArray, List.set_cons_zero, List.set_cons_succ]
              refine wpAnyG_one (i := 9) (by kernel_rfl) rfl (by rfl) ?_
              refine wp_hide (fun K' hK' => ?_)
              go_simp
              refine HQ65.out.mono ?_
              rintro e w' ⟨rfl, rfl⟩
              refine hK' _ _ ⟨fun _ => HB0.out, ?_⟩
              clear hK' K'
              refine wpAnyG_take (i := 14) (d := some 145) (v := .bool false) rfl rfl (by kernel_rfl) (by kernel_rfl) (by kernel_rfl) (by kernel_rfl) (by kernel_rfl) (fun _ _ _ h => h) (by rfl) (fun w' h => by go_simp) HB0.out ?_
              simp only [Act.put, List.setIfInBounds_toArray, List.set_cons_zero, List.set_cons_succ]
              refine wpAnyG_take (i := 15) (d := some 146) (v := .bool false) rfl rfl (by kernel_rfl) (by kernel_rfl) (by kernel_rfl) (by kernel_rfl) (by kernel_rfl) (fun _ _ _ h => h) (by rfl) (fun w' h => by go_simp) HB0.out ?_
              simp only [Act.put, List.setIfInBounds_toArray, List.set_cons_zero, List.set_cons_succ]
              refine wpAnyG_take (i := 16) (d := some 147) (v := .bool false) rfl rfl (by kernel_rfl) (by kernel_rfl) (by kernel_rfl) (by kernel_rfl) (by kernel_rfl) (fun _ _ _ h => h) (by rfl) (fun w' h => by go_simp) HB0.out ?_
              simp only [Act.put, List.setIfInBounds_toArray, List.set_cons_zero, List.set_cons_succ]
              refine wpAnyG_take (i := 17) (d := some 148) (v := .pointer (some ⟨g, 0, none⟩)) rfl rfl (by kernel_rfl) (by kernel_rfl) (by kernel_rfl) (by kernel_rfl) (by kernel_rfl) (fun _ _ _ h => h) (by rfl) (fun w' h => by go_simp) HB0.out ?_
              simp only [Act.put, List.setIfInBounds_toArray, List.set_cons_zero, List.set_cons_succ]
              refine wpAnyG_take (i := 20) (d := some 151) (v := .pointer (some ⟨g', 0, none⟩)) rfl rfl (by kernel_rfl) (by kernel_rfl) (by kernel_rfl) (by kernel_rfl) (by kernel_rfl) (fun _ _ _ h => h) (by rfl) (fun w' h => by go_simp) HB0.out ?_
              simp only [Act.put, List.setIfInBounds_toArray, List.set_cons_zero, List.set_cons_succ]
              refine wpAnyG_take (i := 21) (d := some 152) (v := .pointer (some ⟨g', 0, none⟩)) rfl rfl (by kernel_rfl) (by kernel_rfl) (by kernel_rfl) (by kernel_rfl) (by kernel_rfl) (fun _ _ _ h => h) (by rfl) (fun w' h => by go_simp) HB0.out ?_
              simp only [Act.put, List.setIfInBounds_toArray, List.set_cons_zero, List.set_cons_succ]
              refine wpAnyG_take (i := 22) (d := some 153) (v := .pointer (some ⟨g', 0, none⟩)) rfl rfl (by kernel_rfl) (by kernel_rfl) (by kernel_rfl) (by kernel_rfl) (by kernel_rfl) (fun _ _ _ h => h) (by rfl) (fun w' h => by go_simp) HB0.out ?_
              simp only [Act.put, List.setIfInBounds_toArray, List.set_cons_zero, List.set_cons_succ]
              refine wpAnyG_take (i := 23) (d := some 154) (v := .slice A1 n1 c1) rfl rfl (by kernel_rfl) (by kernel_rfl) (by kernel_rfl) (by kernel_rfl) (by kernel_rfl) (fun _ _ _ h => h) (by rfl) (fun w' h => by have := HD0.out w' h; go_simp) HB0.out ?_
              simp only [Act.put, List.setIfInBounds_toArray, List.set_cons_zero, List.set_cons_succ]
              refine wpAnyG_take (i := 24) (d := some 155) (v := .string s0) rfl rfl (by kernel_rfl) (by kernel_rfl) (by kernel_rfl) (by kernel_rfl) (by kernel_rfl) (fun _ _ _ h => h) (by rfl) (fun w' h => by have := HV0.out w' h; go_simp) HB0.out ?_
              simp only [Act.put, List.setIfInBounds_toArray, List.set_cons_zero, List.set_cons_succ]
              refine wpAnyG_one (i := 18) (by kernel_rfl) rfl (by rfl) ?_
              refine wp_hide (fun K' hK' => ?_)
              go_simp
              refine (HQ60.out _ HB0.out).mono ?_
              rintro e w9 ⟨A9, c9, rfl, ho9, hb9⟩
              have hb89 := HB0.out.trans (hb9.mono HB0.out.size)
              have hcv9 := conv_str ho9.bytes c9
              rw [← HE0.out] at hcv9
              have HB9 := Lib.hid hb89
              refine hK' _ _ ⟨fun _ => HB9.out, ?_⟩
              clear hK' K' ho9 hb9 hb89
              refine wpAnyG_one (i := 19) (by kernel_rfl) rfl (by rfl) ?_
              refine wp_value (some 150) rfl (v := .string s0) (w1 := w9) (by go_simp) ⟨fun _ => HB9.out, ?_⟩
              simp only [Act.put, List.setIfInBounds_toArray, List.set_cons_zero, List.set_cons_succ]
              clear hcv9
              refine wpAnyG_take (i := 25) (d := some 156) (v := .bool false) rfl rfl (by kernel_rfl) (by kernel_rfl) (by kernel_rfl) (by kernel_rfl) (by kernel_rfl) (fun _ _ _ h => h) (by rfl) (fun w' h => by go_simp) HB9.out ?_
              simp only [Act.put, List.setIfInBounds_toArray, List.set_cons_zero, List.set_cons_succ]
              refine wpAnyG_take (i := 26) (d := some 157) (v := .bool false) rfl rfl (by kernel_rfl) (by kernel_rfl) (by kernel_rfl) (by kernel_rfl) (by kernel_rfl) (fun _ _ _ h => h) (by rfl) (fun w' h => by go_simp) HB9.out ?_
              simp only [Act.put, List.setIfInBounds_toArray, List.set_cons_zero, List.set_cons_succ]
              refine wpAnyG_take (i := 27) (d := some 158) (v := .bool false) rfl rfl (by kernel_rfl) (by kernel_rfl) (by kernel_rfl) (by kernel_rfl) (by kernel_rfl) (fun _ _ _ h => h) (by rfl) (fun w' h => by go_simp) HB9.out ?_
              simp only [Act.put, List.setIfInBounds_toArray, List.set_cons_zero, List.set_cons_succ]
              refine wpAnyG_take (i := 28) (d := some 159) (v := .pointer (some ⟨g, 0, none⟩)) rfl rfl (by kernel_rfl) (by kernel_rfl) (by kernel_rfl) (by kernel_rfl) (by kernel_rfl) (fun _ _ _ h => h) (by rfl) (fun w' h => by go_simp) HB9.out ?_
              simp only [Act.put, List.setIfInBounds_toArray, List.set_cons_zero, List.set_cons_succ]
              refine wpAnyG_take (i := 31) (d := some 162) (v := .pointer (some ⟨g', 0, none⟩)) rfl rfl (by kernel_rfl) (by kernel_rfl) (by kernel_rfl) (by kernel_rfl) (by kernel_rfl) (fun _ _ _ h => h) (by rfl) (fun w' h => by go_simp) HB9.out ?_
              simp only [Act.put, List.setIfInBounds_toArray, List.set_cons_zero, List.set_cons_succ]
              refine wpAnyG_take (i := 32) (d := some 163) (v := .pointer (some ⟨g', 0, none⟩)) rfl rfl (by kernel_rfl) (by kernel_rfl) (by kernel_rfl) (by kernel_rfl) (by kernel_rfl) (fun _ _ _ h => h) (by rfl) (fun w' h => by go_simp) HB9.out ?_
              simp only [Act.put, List.setIfInBounds_toArray, List.set_cons_zero, List.set_cons_succ]
              refine wpAnyG_take (i := 33) (d := some 164) (v := .pointer (some ⟨g', 1, none⟩)) rfl rfl (by kernel_rfl) (by kernel_rfl) (by kernel_rfl) (by kernel_rfl) (by kernel_rfl) (fun _ _ _ h => h) (by rfl) (fun w' h => by go_simp) HB9.out ?_
              simp only [Act.put, List.setIfInBounds_toArray, List.set_cons_zero, List.set_cons_succ]
              refine wpAnyG_take (i := 34) (d := some 165) (v := .slice A2 n2 c2) rfl rfl (by kernel_rfl) (by kernel_rfl) (by kernel_rfl) (by kernel_rfl) (by kernel_rfl) (fun _ _ _ h => h) (by rfl) (fun w' h => by have := HD1.out w' h; go_simp) HB9.out ?_
              simp only [Act.put, List.setIfInBounds_toArray, List.set_cons_zero, List.set_cons_succ]
              refine wpAnyG_take (i := 35) (d := some 166) (v := .string s1) rfl rfl (by kernel_rfl) (by kernel_rfl) (by kernel_rfl) (by kernel_rfl) (by kernel_rfl) (fun _ _ _ h => h) (by rfl) (fun w' h => by have := HV1.out w' h; go_simp) HB9.out ?_
              simp only [Act.put, List.setIfInBounds_toArray, List.set_cons_zero, List.set_cons_succ]
              refine wpAnyG_one (i := 29) (by kernel_rfl) rfl (by rfl) ?_
              refine wp_hide (fun K' hK' => ?_)
              go_simp
              refine (HQ61.out _ HB9.out).mono ?_
              rintro e w10 ⟨A10, c10, rfl, ho10, hb10⟩
              have hb810 := HB9.out.trans (hb10.mono HB9.out.size)
              have hcv10 := conv_str ho10.bytes c10
              rw [← HE1.out] at hcv10
              have HB10 := Lib.hid hb810
              refine hK' _ _ ⟨fun _ => HB10.out, ?_⟩
              clear hK' K' ho10 hb10 hb810
              refine wpAnyG_one (i := 30) (by kernel_rfl) rfl (by rfl) ?_
              refine wp_value (some 161) rfl (v := .string s1) (w1 := w10) (by go_simp) ⟨fun _ => HB10.out, ?_⟩
              simp only [Act.put, List.setIfInBounds_toArray, List.set_cons_zero, List.set_cons_succ]
              clear hcv10
              refine wpAnyG_take (i := 36) (d := some 167) (v := .bool false) rfl rfl (by kernel_rfl) (by kernel_rfl) (by kernel_rfl) (by kernel_rfl) (by kernel_rfl) (fun _ _ _ h => h) (by rfl) (fun w' h => by go_simp) HB10.out ?_
              simp only [Act.put, List.setIfInBounds_toArray, List.set_cons_zero, List.set_cons_succ]
              refine wpAnyG_take (i := 37) (d := some 168) (v := .bool false) rfl rfl (by kernel_rfl) (by kernel_rfl) (by kernel_rfl) (by kernel_rfl) (by kernel_rfl) (fun _ _ _ h => h) (by rfl) (fun w' h => by go_simp) HB10.out ?_
              simp only [Act.put, List.setIfInBounds_toArray, List.set_cons_zero, List.set_cons_succ]
              refine wpAnyL_done (by kernel_rfl) ?_ _
              have HP := Lib.hid (show PlayAt w g g' (opsW (l.take (k + 1))) w10 from ⟨_, _, J8, HT8.out.later HB10.out, HF8.out.1, HF8.out.2.1⟩)
              clear HT8 HF8 HD3 HD0 HD1 HV0 HV1 HQ65 HQ60 HQ61 HB0 HB9 HB10
              go_wp2
              go_roundw
              case rel => exact ⟨k + 1, by omega, by go_num, HP.out⟩
              case measure => simp [intOf]; omega
      · as_aux_lemma =>
          have hcc := HCP.out.cells
          obtain ⟨y0, y1, y2, y3⟩ := hcc
          clear hcp
          go_wp2_with fail
          refine (jSync (wo.alloc (.cells #[.int .i64 op.what, .int .u8 (op.kind.toNat : Int), .slice A3 k3 d3, .int .i64 op.num] 80)) g C J HTa.out.a hjf hjk).mono ?_
          rintro e w6 ⟨rfl, hJ6, hK6⟩
          have HT6 := Lib.hid (HTa.out.first hJ6 hK6)
          have hcp6 := HCP.out.kept hK6 HOC.out
          clear hJ6 hK6 y0 y1 y2 y3
          obtain ⟨y0, y1, y2, y3⟩ := hcp6.cells
          clear hcp6
          generalize since (wo.alloc (.cells #[.int .i64 op.what, .int .u8 (op.kind.toNat : Int), .slice A3 k3 d3, .int .i64 op.num] 80)) C w6 = C8 at *
          go_wp2_with fail
          refine (refSync w6 g' D J HT6.out.b hjf hjk).mono ?_
          rintro e w8 ⟨rfl, hJ8, hK8⟩
          have HT8 := Lib.hid (HT6.out.second hJ8 hK8)
          have HF8 := Lib.hid (show (J.sync.2).fits ∧ (J.sync.2).size ≤ opsW (l.take (k + 1)) ∧ (J.sync.2).size ≤ 200000 from ⟨sync_fits HFJ.out, by have := HSJ.out; rw [sync_size]; omega, by have := HSJ.out; rw [sync_size]; omega⟩)
          clear hJ8 hK8 y0 y1 y2 y3 HT6
          generalize since w6 D w8 = D8 at *
          obtain ⟨x, hx⟩ : ∃ x, x = J.sync.1 := ⟨_, rfl⟩
          rw [← hx]
          clear hx
          generalize J.sync.2 = J8 at *
          obtain ⟨A1, n1, c1, A2, n2, c2, hb8⟩ := HT8.out.b
          have hlk := hb8.kept.len
          have hlr := hb8.rest.len
          have hsz8 : n1 + n2 ≤ 200000 := by have := HF8.out.2.2; unfold JV.size at this; omega
          have HD3 := Lib.hid (show ∀ W, Below w8.heap.size w8 W → W.cell? ⟨g', 3, none⟩ = some (.bool J8.down) from fun W hb => (hb.cell (p := ⟨g', 3, none⟩) hb8.lt).trans hb8.cell3)
          have HD0 := Lib.hid (show ∀ W, Below w8.heap.size w8 W → W.cell? ⟨g', 0, none⟩ = some (.slice A1 n1 c1) from fun W hb => (hb.cell (p := ⟨g', 0, none⟩) hb8.lt).trans hb8.cell0)
          have HD1 := Lib.hid (show ∀ W, Below w8.heap.size w8 W → W.cell? ⟨g', 1, none⟩ = some (.slice A2 n2 c2) from fun W hb => (hb.cell (p := ⟨g', 1, none⟩) hb8.lt).trans hb8.cell1)
          have HV0 := Lib.hid (show ∀ W, Below w8.heap.size w8 W → (convert 23 9 (.slice A1 n1 c1)).run Tryd.prog W = .ok (.string (str J8.kept)) W from fun W hb => conv_str (hb8.kept.bytes.below hb) c1)
          have HV1 := Lib.hid (show ∀ W, Below w8.heap.size w8 W → (convert 23 9 (.slice A2 n2 c2)).run Tryd.prog W = .ok (.string (str J8.rest)) W from fun W hb => conv_str (hb8.rest.bytes.below hb) c2)
          have HQ65 := Lib.hid (jDown w8.drew g C8 J8 (HT8.out.a.later (Below.refl _ w8).drew))
          have HQ60 := Lib.hid (show ∀ W, Below w8.heap.size w8 W → Calls Tryd.prog 60 #[.pointer (some ⟨g, 0, none⟩)] W (Copied W n1 J8.kept) from fun W hb => by have := jSynced W g C8 J8 (HT8.out.a.later hb) (by omega); rwa [hlk] at this)
          have HQ61 := Lib.hid (show ∀ W, Below w8.heap.size w8 W → Calls Tryd.prog 61 #[.pointer (some ⟨g, 0, none⟩)] W (Copied W n2 J8.rest) from fun W hb => by have := jTail W g C8 J8 (HT8.out.a.later hb) (by omega); rwa [hlr] at this)
          have HB0 : Hid (Below w8.heap.size w8 w8.drew) := Lib.hid (Below.refl _ w8).drew
          obtain ⟨s0, hs0⟩ : ∃ s, s = str J8.kept := ⟨_, rfl⟩
          obtain ⟨s1, hs1⟩ : ∃ s, s = str J8.rest := ⟨_, rfl⟩
          rw [← hs0] at HV0
          rw [← hs1] at HV1
          have HE0 := Lib.hid hs0
          have HE1 := Lib.hid hs1
          clear hs0 hs1
          generalize J8.down = dn at *
          clear hb8 hlk hlr
          go_wp2_with fail
          refine region_L (fun w' => Below w8.heap.size w8 w') [] (by kernel_rfl) ?_
          simp only [List.size_toArray, List.length_cons, List.length_nil, Nat.reduceAdd, Array.replicate_succ, Array.replicate_zero]
          refine wpAnyG_take (i := 0) (d := some 131) (v := .bool true) rfl rfl (by kernel_rfl) (by kernel_rfl) (by kernel_rfl) (by kernel_rfl) (by kernel_rfl) (fun _ _ _ h => h) (by rfl) (fun w' h => by go_simp) HB0.out ?_
          simp only [Act.put, List.setIfInBounds_toArray, List.set_cons_zero, List.set_cons_succ]
          refine wpAnyG_take (i := 1) (d := some 132) (v := .bool false) rfl rfl (by kernel_rfl) (by kernel_rfl) (by kernel_rfl) (by kernel_rfl) (by kernel_rfl) (fun _ _ _ h => h) (by rfl) (fun w' h => by go_simp) HB0.out ?_
          simp only [Act.put, List.setIfInBounds_toArray, List.set_cons_zero, List.set_cons_succ]
          refine wpAnyG_take (i := 2) (d := some 133) (v := .bool false) rfl rfl (by kernel_rfl) (by kernel_rfl) (by kernel_rfl) (by kernel_rfl) (by kernel_rfl) (fun _ _ _ h => h) (by rfl) (fun w' h => by go_simp) HB0.out ?_
          simp only [Act.put, List.setIfInBounds_toArray, List.set_cons_zero, List.set_cons_succ]
          refine wpAnyG_take (i := 3) (d := some 134) (v := .int .i64 x) rfl rfl (by kernel_rfl) (by kernel_rfl) (by kernel_rfl) (by kernel_rfl) (by kernel_rfl) (fun _ _ _ h => h) (by rfl) (fun w' h => by go_simp) HB0.out ?_
          simp only [Act.put, List.setIfInBounds_toArray, List.set_cons_zero, List.set_cons_succ]
          refine wpAnyG_take (i := 4) (d := some 135) (v := .int .i64 x) rfl rfl (by kernel_rfl) (by kernel_rfl) (by kernel_rfl) (by kernel_rfl) (by kernel_rfl) (fun _ _ _ h => h) (by rfl) (fun w' h => by go_simp) HB0.out ?_
          simp only [Act.put, List.setIfInBounds_toArray, List.set_cons_zero, List.set_cons_succ]
          refine wpAnyG_take (i := 5) (d := some 136) (v := .bool false) rfl rfl (by kernel_rfl) (by kernel_rfl) (by kernel_rfl) (by kernel_rfl) (by kernel_rfl) (fun _ _ _ h => h) (by rfl) (fun w' h => by go_simp) HB0.out ?_
          simp only [Act.put, List.setIfInBounds_toArray, List.set_cons_zero, List.set_cons_succ]
          refine wpAnyG_take (i := 6) (d := some 137) (v := .bool false) rfl rfl (by kernel_rfl) (by kernel_rfl) (by kernel_rfl) (by kernel_rfl) (by kernel_rfl) (fun _ _ _ h => h) (by rfl) (fun w' h => by go_simp) HB0.out ?_
          simp only [Act.put, List.setIfInBounds_toArray, List.set_cons_zero, List.set_cons_succ]
          refine wpAnyG_take (i := 7) (d := some 138) (v := .bool false) rfl rfl (by kernel_rfl) (by kernel_rfl) (by kernel_rfl) (by kernel_rfl) (by kernel_rfl) (fun _ _ _ h => h) (by rfl) (fun w' h => by go_simp) HB0.out ?_
          simp only [Act.put, List.setIfInBounds_toArray, List.set_cons_zero, List.set_cons_succ]
          refine wpAnyG_take (i := 8) (d := some 139) (v := .pointer (some ⟨g, 0, none⟩)) rfl rfl (by kernel_rfl) (by kernel_rfl) (by kernel_rfl) (by kernel_rfl) (by kernel_rfl) (fun _ _ _ h => h) (by rfl) (fun w' h => by go_simp) HB0.out ?_
          simp only [Act.put, List.setIfInBounds_toArray, List.set_cons_zero, List.set_cons_succ]
          refine wpAnyG_take (i := 10) (d := some 141) (v := .pointer (some ⟨g', 0, none⟩)) rfl rfl (by kernel_rfl) (by kernel_rfl) (by kernel_rfl) (by kernel_rfl) (by kernel_rfl) (fun _ _ _ h => h) (by rfl) (fun w' h => by go_simp) HB0.out ?_
          simp only [Act.put, List.setIfInBounds_toArray, List.set_cons_zero, List.set_cons_succ]
          refine wpAnyG_take (i := 11) (d := some 142) (v := .pointer (some ⟨g', 0, none⟩)) rfl rfl (by kernel_rfl) (by kernel_rfl) (by kernel_rfl) (by kernel_rfl) (by kernel_rfl) (fun _ _ _ h => h) (by rfl) (fun w' h => by go_simp) HB0.out ?_
          simp only [Act.put, List.setIfInBounds_toArray, List.set_cons_zero, List.set_cons_succ]
          refine wpAnyG_take (i := 12) (d := some 143) (v := .pointer (some ⟨g', 3, none⟩)) rfl rfl (by kernel_rfl) (by kernel_rfl) (by kernel_rfl) (by kernel_rfl) (by kernel_rfl) (fun _ _ _ h => h) (by rfl) (fun w' h => by go_simp) HB0.out ?_
          simp only [Act.put, List.setIfInBounds_toArray, List.set_cons_zero, List.set_cons_succ]
          refine wpAnyG_take (i := 13) (d := some 144) (v := .bool dn) rfl rfl (by kernel_rfl) (by kernel_rfl) (by kernel_rfl) (by kernel_rfl) (by kernel_rfl) (fun _ _ _ h => h) (by rfl) (fun w' h => by have := HD3.out w' h; go_simp) HB0.out ?_
          simp only [Act.put, List.setIfInBounds_toArray, List.set_cons_zero, List.set_cons_succ]
          refine wpAnyG_one (i := 9) (by kernel_rfl) rfl (by rfl) ?_
          refine wp_hide (fun K' hK' => ?_)
          go_simp
          refine HQ65.out.mono ?_
          rintro e w' ⟨rfl, rfl⟩
          refine hK' _ _ ⟨fun _ => HB0.out, ?_⟩
          clear hK' K'
          refine wpAnyG_take (i := 14) (d := some 145) (v := .bool false) rfl rfl (by kernel_rfl) (by kernel_rfl) (by kernel_rfl) (by kernel_rfl) (by kernel_rfl) (fun _ _ _ h => h) (by rfl) (fun w' h => by go_simp) HB0.out ?_
          simp only [Act.put, List.setIfInBounds_toArray, List.set_cons_zero, List.set_cons_succ]
          refine wpAnyG_take (i := 15) (d := some 146) (v := .bool false) rfl rfl (by kernel_rfl) (by kernel_rfl) (by kernel_rfl) (by kernel_rfl) (by kernel_rfl) (fun _ _ _ h => h) (by rfl) (fun w' h => by go_simp) HB0.out ?_
          simp only [Act.put, List.setIfInBounds_toArray, List.set_cons_zero, List.set_cons_succ]
          refine wpAnyG_take (i := 16) (d := some 147) (v := .bool false) rfl rfl (by kernel_rfl) (by kernel_rfl) (by kernel_rfl) (by kernel_rfl) (by kernel_rfl) (fun _ _ _ h => h) (by rfl) (fun w' h => by go_simp) HB0.out ?_
          simp only [Act.put, List.setIfInBounds_toArray, List.set_cons_zero, List.set_cons_succ]
          refine wpAnyG_take (i := 17) (d := some 148) (v := .pointer (some ⟨g, 0, none⟩)) rfl rfl (by kernel_rfl) (by kernel_rfl) (by kernel_rfl) (by kernel_rfl) (by kernel_rfl) (fun _ _ _ h => h) (by rfl) (fun w' h => by go_simp) HB0.out ?_
          simp only [Act.put, List.setIfInBounds_toArray, List.set_cons_zero, List.set_cons_succ]
          refine wpAnyG_take (i := 20) (d := some 151) (v := .pointer (some ⟨g', 0, none⟩)) rfl rfl (by kernel_rfl) (by kernel_rfl) (by kernel_rfl) (by kernel_rfl) (by kernel_rfl) (fun _ _ _ h => h) (by rfl) (fun w' h => by go_simp) HB0.out ?_
          simp only [Act.put, List.setIfInBounds_toArray, List.set_cons_zero, List.set_cons_succ]
          refine wpAnyG_take (i := 21) (d := some 152) (v := .pointer (some ⟨g', 0, none⟩)) rfl rfl (by kernel_rfl) (by kernel_rfl) (by kernel_rfl) (by kernel_rfl) (by kernel_rfl) (fun _ _ _ h => h) (by rfl) (fun w' h => by go_simp) HB0.out ?_
          simp only [Act.put, List.setIfInBounds_toArray, List.set_cons_zero, List.set_cons_succ]
          refine wpAnyG_take (i := 22) (d := some 153) (v := .pointer (some ⟨g', 0, none⟩)) rfl rfl (by kernel_rfl) (by kernel_rfl) (by kernel_rfl) (by kernel_rfl) (by kernel_rfl) (fun _ _ _ h => h) (by rfl) (fun w' h => by go_simp) HB0.out ?_
          simp only [Act.put, List.setIfInBounds_toArray, List.set_cons_zero, List.set_cons_succ]
          refine wpAnyG_take (i := 23) (d := some 154) (v := .slice A1 n1 c1) rfl rfl (by kernel_rfl) (by kernel_rfl) (by kernel_rfl) (by kernel_rfl) (by kernel_rfl) (fun _ _ _ h => h) (by rfl) (fun w' h => by have := HD0.out w' h; go_simp) HB0.out ?_
          simp only [Act.put, List.setIfInBounds_toArray, List.set_cons_zero, List.set_cons_succ]
          refine wpAnyG_take (i := 24) (d := some 155) (v := .string s0) rfl rfl (by kernel_rfl) (by kernel_rfl) (by kernel_rfl) (by kernel_rfl) (by kernel_rfl) (fun _ _ _ h => h) (by rfl) (fun w' h => by have := HV0.out w' h; go_simp) HB0.out ?_
          simp only [Act.put, List.setIfInBounds_toArray, List.set_cons_zero, List.set_cons_succ]
          refine wpAnyG_one (i := 18) (by kernel_rfl) rfl (by rfl) ?_
          refine wp_hide (fun K' hK' => ?_)
          go_simp
          refine (HQ60.out _ HB0.out).mono ?_
          rintro e w9 ⟨A9, c9, rfl, ho9, hb9⟩
          have hb89 := HB0.out.trans (hb9.mono HB0.out.size)
          have hcv9 := conv_str ho9.bytes c9
          rw [← HE0.out] at hcv9
          have HB9 := Lib.hid hb89
          refine hK' _ _ ⟨fun _ => HB9.out, ?_⟩
          clear hK' K' ho9 hb9 hb89
          refine wpAnyG_one (i := 19) (by kernel_rfl) rfl (by rfl) ?_
          refine wp_value (some 150) rfl (v := .string s0) (w1 := w9) (by go_simp) ⟨fun _ => HB9.out, ?_⟩
          simp only [Act.put, List.setIfInBounds_toArray, List.set_cons_zero, List.set_cons_succ]
          clear hcv9
          refine wpAnyG_take (i := 25) (d := some 156) (v := .bool false) rfl rfl (by kernel_rfl) (by kernel_rfl) (by kernel_rfl) (by kernel_rfl) (by kernel_rfl) (fun _ _ _ h => h) (by rfl) (fun w' h => by go_simp) HB9.out ?_
          simp only [Act.put, List.setIfInBounds_toArray, List.set_cons_zero, List.set_cons_succ]
          refine wpAnyG_take (i := 26) (d := some 157) (v := .bool false) rfl rfl (by kernel_rfl) (by kernel_rfl) (by kernel_rfl) (by kernel_rfl) (by kernel_rfl) (fun _ _ _ h => h) (by rfl) (fun w' h => by go_simp) HB9.out ?_
          simp only [Act.put, List.setIfInBounds_toArray, List.set_cons_zero, List.set_cons_succ]
          refine wpAnyG_take (i := 27) (d := some 158) (v := .bool false) rfl rfl (by kernel_rfl) (by kernel_rfl) (by kernel_rfl) (by kernel_rfl) (by kernel_rfl) (fun _ _ _ h => h) (by rfl) (fun w' h => by go_simp) HB9.out ?_
          simp only [Act.put, List.setIfInBounds_toArray, List.set_cons_zero, List.set_cons_succ]
          refine wpAnyG_take (i := 28) (d := some 159) (v := .pointer (some ⟨g, 0, none⟩)) rfl rfl (by kernel_rfl) (by kernel_rfl) (by kernel_rfl) (by kernel_rfl) (by kernel_rfl) (fun _ _ _ h => h) (by rfl) (fun w' h => by go_simp) HB9.out ?_
          simp only [Act.put, List.setIfInBounds_toArray, List.set_cons_zero, List.set_cons_succ]
          refine wpAnyG_take (i := 31) (d := some 162) (v := .pointer (some ⟨g', 0, none⟩)) rfl rfl (by kernel_rfl) (by kernel_rfl) (by kernel_rfl) (by kernel_rfl) (by kernel_rfl) (fun _ _ _ h => h) (by rfl) (fun w' h => by go_simp) HB9.out ?_
          simp only [Act.put, List.setIfInBounds_toArray, List.set_cons_zero, List.set_cons_succ]
          refine wpAnyG_take (i := 32) (d := some 163) (v := .pointer (some ⟨g', 0, none⟩)) rfl rfl (by kernel_rfl) (by kernel_rfl) (by kernel_rfl) (by kernel_rfl) (by kernel_rfl) (fun _ _ _ h => h) (by rfl) (fun w' h => by go_simp) HB9.out ?_
          simp only [Act.put, List.setIfInBounds_toArray, List.set_cons_zero, List.set_cons_succ]
          refine wpAnyG_take (i := 33) (d := some 164) (v := .pointer (some ⟨g', 1, none⟩)) rfl rfl (by kernel_rfl) (by kernel_rfl) (by kernel_rfl) (by kernel_rfl) (by kernel_rfl) (fun _ _ _ h => h) (by rfl) (fun w' h => by go_simp) HB9.out ?_
          simp only [Act.put, List.setIfInBounds_toArray, List.set_cons_zero, List.set_cons_succ]
          refine wpAnyG_take (i := 34) (d := some 165) (v := .slice A2 n2 c2) rfl rfl (by kernel_rfl) (by kernel_rfl) (by kernel_rfl) (by kernel_rfl) (by kernel_rfl) (fun _ _ _ h => h) (by rfl) (fun w' h => by have := HD1.out w' h; go_simp) HB9.out ?_
          simp only [Act.put, List.setIfInBounds_toArray, List.set_cons_zero, List.set_cons_succ]
          refine wpAnyG_take (i := 35) (d := some 166) (v := .string s1) rfl rfl (by kernel_rfl) (by kernel_rfl) (by kernel_rfl) (by kernel_rfl) (by kernel_rfl) (fun _ _ _ h => h) (by rfl) (fun w' h => by have := HV1.out w' h; go_simp) HB9.out ?_
          simp only [Act.put, List.setIfInBounds_toArray, List.set_cons_zero, List.set_cons_succ]
          refine wpAnyG_one (i := 29) (by kernel_rfl) rfl (by rfl) ?_
          refine wp_hide (fun K' hK' => ?_)
          go_simp
          refine (HQ61.out _ HB9.out).mono ?_
          rintro e w10 ⟨A10, c10, rfl, ho10, hb10⟩
          have hb810 := HB9.out.trans (hb10.mono HB9.out.size)
          have hcv10 := conv_str ho10.bytes c10
          rw [← HE1.out] at hcv10
          have HB10 := Lib.hid hb810
          refine hK' _ _ ⟨fun _ => HB10.out, ?_⟩
          clear hK' K' ho10 hb10 hb810
          refine wpAnyG_one (i := 30) (by kernel_rfl) rfl (by rfl) ?_
          refine wp_value (some 161) rfl (v := .string s1) (w1 := w10) (by go_simp) ⟨fun _ => HB10.out, ?_⟩
          simp only [Act.put, List.setIfInBounds_toArray, List.set_cons_zero, List.set_cons_succ]
          clear hcv10
          refine wpAnyG_take (i := 36) (d := some 167) (v := .bool false) rfl rfl (by kernel_rfl) (by kernel_rfl) (by kernel_rfl) (by kernel_rfl) (by kernel_rfl) (fun _ _ _ h => h) (by rfl) (fun w' h => by go_simp) HB10.out ?_
          simp only [Act.put, List.setIfInBounds_toArray, List.set_cons_zero, List.set_cons_succ]
          refine wpAnyG_take (i := 37) (d := some 168) (v := .bool false) rfl rfl (by kernel_rfl) (by kernel_rfl) (by kernel_rfl) (by kernel_rfl) (by kernel_rfl) (fun _ _ _ h => h) (by rfl) (fun w' h => by go_simp) HB10.out ?_
          simp only [Act.put, List.setIfInBounds_toArray, List.set_cons_zero, List.set_cons_succ]
          refine wpAnyL_done (by kernel_rfl) ?_ _
          have HP := Lib.hid (show PlayAt w g g' (opsW (l.take (k + 1))) w10 from ⟨_, _, J8, HT8.out.later HB10.out, HF8.out.1, HF8.out.2.1⟩)
          clear HT8 HF8 HD3 HD0 HD1 HV0 HV1 HQ65 HQ60 HQ61 HB0 HB9 HB10
          go_wp2
          go_roundw
          case rel => exact ⟨k + 1, by omega, by go_num, HP.out⟩
          case measure => simp [intOf]; omega
      · as_aux_lemma =>
          have hcc := HCP.out.cells
          obtain ⟨y0, y1, y2, y3⟩ := hcc
          clear hcp
          go_wp2_with fail
          refine (jSync (wo.alloc (.cells #[.int .i64 op.what, .int .u8 (op.kind.toNat : Int), .slice A3 k3 d3, .int .i64 op.num] 80)) g C J HTa.out.a hjf hjk).mono ?_
          rintro e w6 ⟨rfl, hJ6, hK6⟩
          have HT6 := Lib.hid (HTa.out.first hJ6 hK6)
          have hcp6 := HCP.out.kept hK6 HOC.out
          clear hJ6 hK6 y0 y1 y2 y3
          obtain ⟨y0, y1, y2, y3⟩ := hcp6.cells
          clear hcp6
          generalize since (wo.alloc (.cells #[.int .i64 op.what, .int .u8 (op.kind.toNat : Int), .slice A3 k3 d3, .int .i64 op.num] 80)) C w6 = C8 at *
          go_wp2_with fail
          refine (refSync w6 g' D J HT6.out.b hjf hjk).mono ?_
          rintro e w8 ⟨rfl, hJ8, hK8⟩
          have HT8 := Lib.hid (HT6.out.second hJ8 hK8)
          have HF8 := Lib.hid (show (J.sync.2).fits ∧ (J.sync.2).size ≤ opsW (l.take (k + 1)) ∧ (J.sync.2).size ≤ 200000 from ⟨sync_fits HFJ.out, by have := HSJ.out; rw [sync_size]; omega, by have := HSJ.out; rw [sync_size]; omega⟩)
          clear hJ8 hK8 y0 y1 y2 y3 HT6
          generalize since w6 D w8 = D8 at *
          obtain ⟨x, hx⟩ : ∃ x, x = J.sync.1 := ⟨_, rfl⟩
          rw [← hx]
          clear hx
          generalize J.sync.2 = J8 at *
          obtain ⟨A1, n1, c1, A2, n2, c2, hb8⟩ := HT8.out.b
          have hlk := hb8.kept.len
          have hlr := hb8.rest.len
          have hsz8 : n1 + n2 ≤ 200000 := by have := HF8.out.2.2; unfold JV.size at this; omega
          have HD3 := Lib.hid (show ∀ W, Below w8.heap.size w8 W → W.cell? ⟨g', 3, none⟩ = some (.bool J8.down) from fun W hb => (hb.cell (p := ⟨g', 3, none⟩) hb8.lt).trans hb8.cell3)
          have HD0 := Lib.hid (show ∀ W, Below w8.heap.size w8 W → W.cell? ⟨g', 0, none⟩ = some (.slice A1 n1 c1) from fun W hb => (hb.cell (p := ⟨g', 0, none⟩) hb8.lt).trans hb8.cell0)
          have HD1 := Lib.hid (show ∀ W, Below w8.heap.size w8 W → W.cell? ⟨g', 1, none⟩ = some (.slice A2 n2 c2) from fun W hb => (hb.cell (p := ⟨g', 1, none⟩) hb8.lt).trans hb8.cell1)
          have HV0 := Lib.hid (show ∀ W, Below w8.heap.size w8 W → (convert 23 9 (.slice A1 n1 c1)).run Tryd.prog W = .ok (.string (str J8.kept)) W from fun W hb => conv_str (hb8.kept.bytes.below hb) c1)
          have HV1 := Lib.hid (show ∀ W, Below w8.heap.size w8 W → (convert 23 9 (.slice A2 n2 c2)).run Tryd.prog W = .ok (.string (str J8.rest)) W from fun W hb => conv_str (hb8.rest.bytes.below hb) c2)
          have HQ65 := Lib.hid (jDown w8.drew g C8 J8 (HT8.out.a.later (Below.refl _ w8).drew))
          have HQ60 := Lib.hid (show ∀ W, Below w8.heap.size w8 W → Calls Tryd.prog 60 #[.pointer (some ⟨g, 0, none⟩)] W (Copied W n1 J8.kept) from fun W hb => by have := jSynced W g C8 J8 (HT8.out.a.later hb) (by omega); rwa [hlk] at this)
          have HQ61 := Lib.hid (show ∀ W, Below w8.heap.size w8 W → Calls Tryd.prog 61 #[.pointer (some ⟨g, 0, none⟩)] W (Copied W n2 J8.rest) from fun W hb => by have := jTail W g C8 J8 (HT8.out.a.later hb) (by omega); rwa [hlr] at this)
          have HB0 : Hid (Below w8.heap.size w8 w8.drew) := Lib.hid (Below.refl _ w8).drew
          obtain ⟨s0, hs0⟩ : ∃ s, s = str J8.kept := ⟨_, rfl⟩
          obtain ⟨s1, hs1⟩ : ∃ s, s = str J8.rest := ⟨_, rfl⟩
          rw [← hs0] at HV0
          rw [← hs1] at HV1
          have HE0 := Lib.hid hs0
          have HE1 := Lib.hid hs1
          clear hs0 hs1
          generalize J8.down = dn at *
          clear hb8 hlk hlr
          go_wp2_with fail
          refine region_L (fun w' => Below w8.heap.size w8 w') [] (by kernel_rfl) ?_
          simp only [List.size_toArray, List.length_cons, List.length_nil, Nat.reduceAdd, Array.replicate_succ, Array.replicate_zero]
          refine wpAnyG_take (i := 0) (d := some 131) (v := .bool true) rfl rfl (by kernel_rfl) (by kernel_rfl) (by kernel_rfl) (by kernel_rfl) (by kernel_rfl) (fun _ _ _ h => h) (by rfl) (fun w' h => by go_simp) HB0.out ?_
          simp only [Act.put, List.setIfInBounds_toArray, List.set_cons_zero, List.set_cons_succ]
          refine wpAnyG_take (i := 1) (d := some 132) (v := .bool false) rfl rfl (by kernel_rfl) (by kernel_rfl) (by kernel_rfl) (by kernel_rfl) (by kernel_rfl) (fun _ _ _ h => h) (by rfl) (fun w' h => by go_simp) HB0.out ?_
          simp only [Act.put, List.setIfInBounds_toArray, List.set_cons_zero, List.set_cons_succ]
          refine wpAnyG_take (i := 2) (d := some 133) (v := .bool false) rfl rfl (by kernel_rfl) (by kernel_rfl) (by kernel_rfl) (by kernel_rfl) (by kernel_rfl) (fun _ _ _ h => h) (by rfl) (fun w' h => by go_simp) HB0.out ?_
          simp only [Act.put, List.setIfInBounds_toArray, List.set_cons_zero, List.set_cons_succ]
          refine wpAnyG_take (i := 3) (d := some 134) (v := .int .i64 x) rfl rfl (by kernel_rfl) (by kernel_rfl) (by kernel_rfl) (by kernel_rfl) (by kernel_rfl) (fun _ _ _ h => h) (by rfl) (fun w' h => by go_simp) HB0.out ?_
          simp only [Act.put, List.setIfInBounds_toArray, List.set_cons_zero, List.set_cons_succ]
          refine wpAnyG_take (i := 4) (d := some 135) (v := .int .i64 x) rfl rfl (by kernel_rfl) (by kernel_rfl) (by kernel_rfl) (by kernel_rfl) (by kernel_rfl) (fun _ _ _ h => h) (by rfl) (fun w' h => by go_simp) HB0.out ?_
          simp only [Act.put, List.setIfInBounds_toArray, List.set_cons_zero, List.set_cons_succ]
          refine wpAnyG_take (i := 5) (d := some 136) (v := .bool false) rfl rfl (by kernel_rfl) (by kernel_rfl) (by kernel_rfl) (by kernel_rfl) (by kernel_rfl) (fun _ _ _ h => h) (by rfl) (fun w' h => by go_simp) HB0.out ?_
          simp only [Act.put, List.setIfInBounds_toArray, List.set_cons_zero, List.set_cons_succ]
          refine wpAnyG_take (i := 6) (d := some 137) (v := .bool false) rfl rfl (by kernel_rfl) (by kernel_rfl) (by kernel_rfl) (by kernel_rfl) (by kernel_rfl) (fun _ _ _ h => h) (by rfl) (fun w' h => by go_simp) HB0.out ?_
          simp only [Act.put, List.setIfInBounds_toArray, List.set_cons_zero, List.set_cons_succ]
          refine wpAnyG_take (i := 7) (d := some 138) (v := .bool false) rfl rfl (by kernel_rfl) (by kernel_rfl) (by kernel_rfl) (by kernel_rfl) (by kernel_rfl) (fun _ _ _ h => h) (by rfl) (fun w' h => by go_simp) HB0.out ?_
          simp only [Act.put, List.setIfInBounds_toArray, List.set_cons_zero, List.set_cons_succ]
          refine wpAnyG_take (i := 8) (d := some 139) (v := .pointer (some ⟨g, 0, none⟩)) rfl rfl (by kernel_rfl) (by kernel_rfl) (by kernel_rfl) (by kernel_rfl) (by kernel_rfl) (fun _ _ _ h => h) (by rfl) (fun w' h => by go_simp) HB0.out ?_
          simp only [Act.put, List.setIfInBounds_toArray, List.set_cons_zero, List.set_cons_succ]
          refine wpAnyG_take (i := 10) (d := some 141) (v := .pointer (some ⟨g', 0, none⟩)) rfl rfl (by kernel_rfl) (by kernel_rfl) (by kernel_rfl) (by kernel_rfl) (by kernel_rfl) (fun _ _ _ h => h) (by rfl) (fun w' h => by go_simp) HB0.out ?_
          simp only [Act.put, List.setIfInBounds_toArray, List.set_cons_zero, List.set_cons_succ]
          refine wpAnyG_take (i := 11) (d := some 142) (v := .pointer (some ⟨g', 0, none⟩)) rfl rfl (by kernel_rfl) (by kernel_rfl) (by kernel_rfl) (by kernel_rfl) (by kernel_rfl) (fun _ _ _ h => h) (by rfl) (fun w' h => by go_simp) HB0.out ?_
          simp only [Act.put, List.setIfInBounds_toArray, List.set_cons_zero, List.set_cons_succ]
          refine wpAnyG_take (i := 12) (d := some 143) (v := .pointer (some ⟨g', 3, none⟩)) rfl rfl (by kernel_rfl) (by kernel_rfl) (by kernel_rfl) (by kernel_rfl) (by kernel_rfl) (fun _ _ _ h => h) (by rfl) (fun w' h => by go_simp) HB0.out ?_
          simp only [Act.put, List.setIfInBounds_toArray, List.set_cons_zero, List.set_cons_succ]
          refine wpAnyG_take (i := 13) (d := some 144) (v := .bool dn) rfl rfl (by kernel_rfl) (by kernel_rfl) (by kernel_rfl) (by kernel_rfl) (by kernel_rfl) (fun _ _ _ h => h) (by rfl) (fun w' h => by have := HD3.out w' h; go_simp) HB0.out ?_
          simp only [Act.put, List.setIfInBounds_toArray, List.set_cons_zero, List.set_cons_succ]
          refine wpAnyG_one (i := 9) (by kernel_rfl) rfl (by rfl) ?_
          refine wp_hide (fun K' hK' => ?_)
          go_simp
          refine HQ65.out.mono ?_
          rintro e w' ⟨rfl, rfl⟩
          refine hK' _ _ ⟨fun _ => HB0.out, ?_⟩
          clear hK' K'
          refine wpAnyG_take (i := 14) (d := some 145) (v := .bool false) rfl rfl (by kernel_rfl) (by kernel_rfl) (by kernel_rfl) (by kernel_rfl) (by kernel_rfl) (fun _ _ _ h => h) (by rfl) (fun w' h => by go_simp) HB0.out ?_
          simp only [Act.put, List.setIfInBounds_toArray, List.set_cons_zero, List.set_cons_succ]
          refine wpAnyG_take (i := 15) (d := some 146) (v := .bool false) rfl rfl (by kernel_rfl) (by kernel_rfl) (by kernel_rfl) (by kernel_rfl) (by kernel_rfl) (fun _ _ _ h => h) (by rfl) (fun w' h => by go_simp) HB0.out ?_
          simp only [Act.put, List.setIfInBounds_toArray, List.set_cons_zero, List.set_cons_succ]
          refine wpAnyG_take (i := 16) (d := some 147) (v := .bool false) rfl rfl (by kernel_rfl) (by kernel_rfl) (by kernel_rfl) (by kernel_rfl) (by kernel_rfl) (fun _ _ _ h => h) (by rfl) (fun w' h => by go_simp) HB0.out ?_
          simp only [Act.put, List.setIfInBounds_toArray, List.set_cons_zero, List.set_cons_succ]
          refine wpAnyG_take (i := 17) (d := some 148) (v := .pointer (some ⟨g, 0, none⟩)) rfl rfl (by kernel_rfl) (by kernel_rfl) (by kernel_rfl) (by kernel_rfl) (by kernel_rfl) (fun _ _ _ h => h) (by rfl) (fun w' h => by go_simp) HB0.out ?_
          simp only [Act.put, List.setIfInBounds_toArray, List.set_cons_zero, List.set_cons_succ]
          refine wpAnyG_take (i := 20) (d := some 151) (v := .pointer (some ⟨g', 0, none⟩)) rfl rfl (by kernel_rfl) (by kernel_rfl) (by kernel_rfl) (by kernel_rfl) (by kernel_rfl) (fun _ _ _ h => h) (by rfl) (fun w' h => by go_simp) HB0.out ?_
          simp only [Act.put, List.setIfInBounds_toArray, List.set_cons_zero, List.set_cons_succ]
          refine wpAnyG_take (i := 21) (d := some 152) (v := .pointer (some ⟨g', 0, none⟩)) rfl rfl (by kernel_rfl) (by kernel_rfl) (by kernel_rfl) (by kernel_rfl) (by kernel_rfl) (fun _ _ _ h => h) (by rfl) (fun w' h => by go_simp) HB0.out ?_
          simp only [Act.put, List.setIfInBounds_toArray, List.set_cons_zero, List.set_cons_succ]
          refine wpAnyG_take (i := 22) (d := some 153) (v := .pointer (some ⟨g', 0, none⟩)) rfl rfl (by kernel_rfl) (by kernel_rfl) (by kernel_rfl) (by kernel_rfl) (by kernel_rfl) (fun _ _ _ h => h) (by rfl) (fun w' h => by go_simp) HB0.out ?_
          simp only [Act.put, List.setIfInBounds_toArray, List.set_cons_zero, List.set_cons_succ]
          refine wpAnyG_take (i := 23) (d := some 154) (v := .slice A1 n1 c1) rfl rfl (by kernel_rfl) (by kernel_rfl) (by kernel_rfl) (by kernel_rfl) (by kernel_rfl) (fun _ _ _ h => h) (by rfl) (fun w' h => by have := HD0.out w' h; go_simp) HB0.out ?_
          simp only [Act.put, List.setIfInBounds_toArray, List.set_cons_zero, List.set_cons_succ]
          refine wpAnyG_take (i := 24) (d := some 155) (v := .string s0) rfl rfl (by kernel_rfl) (by kernel_rfl) (by kernel_rfl) (by kernel_rfl) (by kernel_rfl) (fun _ _ _ h => h) (by rfl) (fun w' h => by have := HV0.out w' h; go_simp) HB0.out ?_
          simp only [Act.put, List.setIfInBounds_toArray, List.set_cons_zero, List.set_cons_succ]
          refine wpAnyG_one (i := 18) (by kernel_rfl) rfl (by rfl) ?_
          refine wp_hide (fun K' hK' => ?_)
          go_simp
          refine (HQ60.out _ HB0.out).mono ?_
          rintro e w9 ⟨A9, c9, rfl, ho9, hb9⟩
          have hb89 := HB0.out.trans (hb9.mono HB0.out.size)
          have hcv9 := conv_str ho9.bytes c9
          rw [← HE0.out] at hcv9
          have HB9 := Lib.hid hb89
          refine hK' _ _ ⟨fun _ => HB9.out, ?_⟩
          clear hK' K' ho9 hb9 hb89
          refine wpAnyG_one (i := 19) (by kernel_rfl) rfl (by rfl) ?_
          refine wp_value (some 150) rfl (v := .string s0) (w1 := w9) (by go_simp) ⟨fun _ => HB9.out, ?_⟩
          simp only [Act.put, List.setIfInBounds_toArray, List.set_cons_zero, List.set_cons_succ]
          clear hcv9
          refine wpAnyG_take (i := 25) (d := some 156) (v := .bool false) rfl rfl (by kernel_rfl) (by kernel_rfl) (by kernel_rfl) (by kernel_rfl) (by kernel_rfl) (fun _ _ _ h => h) (by rfl) (fun w' h => by go_simp) HB9.out ?_
          simp only [Act.put, List.setIfInBounds_toArray, List.set_cons_zero, List.set_cons_succ]
          refine wpAnyG_take (i := 26) (d := some 157) (v := .bool false) rfl rfl (by kernel_rfl) (by kernel_rfl) (by kernel_rfl) (by kernel_rfl) (by kernel_rfl) (fun _ _ _ h => h) (by rfl) (fun w' h => by go_simp) HB9.out ?_
          simp only [Act.put, List.setIfInBounds_toArray, List.set_cons_zero, List.set_cons_succ]
          refine wpAnyG_take (i := 27) (d := some 158) (v := .bool false) rfl rfl (by kernel_rfl) (by kernel_rfl) (by kernel_rfl) (by kernel_rfl) (by kernel_rfl) (fun _ _ _ h => h) (by rfl) (fun w' h => by go_simp) HB9.out ?_
          simp only [Act.put, List.setIfInBounds_toArray, List.set_cons_zero, List.set_cons_succ]
          refine wpAnyG_take (i := 28) (d := some 159) (v := .pointer (some ⟨g, 0, none⟩)) rfl rfl (by kernel_rfl) (by kernel_rfl) (by kernel_rfl) (by kernel_rfl) (by kernel_rfl) (fun _ _ _ h => h) (by rfl) (fun w' h => by go_simp) HB9.out ?_
          simp only [Act.put, List.setIfInBounds_toArray, List.set_cons_zero, List.set_cons_succ]
          refine wpAnyG_take (i := 31) (d := some 162) (v := .pointer (some ⟨g', 0, none⟩)) rfl rfl (by kernel_rfl) (by kernel_rfl) (by kernel_rfl) (by kernel_rfl) (by kernel_rfl) (fun _ _ _ h => h) (by rfl) (fun w' h => by go_simp) HB9.out ?_
          simp only [Act.put, List.setIfInBounds_toArray, List.set_cons_zero, List.set_cons_succ]
          refine wpAnyG_take (i := 32) (d := some 163) (v := .pointer (some ⟨g', 0, none⟩)) rfl rfl (by kernel_rfl) (by kernel_rfl) (by kernel_rfl) (by kernel_rfl) (by kernel_rfl) (fun _ _ _ h => h) (by rfl) (fun w' h => by go_simp) HB9.out ?_
          simp only [Act.put, List.setIfInBounds_toArray, List.set_cons_zero, List.set_cons_succ]
          refine wpAnyG_take (i := 33) (d := some 164) (v := .pointer (some ⟨g', 1, none⟩)) rfl rfl (by kernel_rfl) (by kernel_rfl) (by kernel_rfl) (by kernel_rfl) (by kernel_rfl) (fun _ _ _ h => h) (by rfl) (fun w' h => by go_simp) HB9.out ?_
          simp only [Act.put, List.setIfInBounds_toArray, List.set_cons_zero, List.set_cons_succ]
          refine wpAnyG_take (i := 34) (d := some 165) (v := .slice A2 n2 c2) rfl rfl (by kernel_rfl) (by kernel_rfl) (by kernel_rfl) (by kernel_rfl) (by kernel_rfl) (fun _ _ _ h => h) (by rfl) (fun w' h => by have := HD1.out w' h; go_simp) HB9.out ?_
          simp only [Act.put, List.setIfInBounds_toArray, List.set_cons_zero, List.set_cons_succ]
          refine wpAnyG_take (i := 35) (d := some 166) (v := .string s1) rfl rfl (by kernel_rfl) (by kernel_rfl) (by kernel_rfl) (by kernel_rfl) (by kernel_rfl) (fun _ _ _ h => h) (by rfl) (fun w' h => by have := HV1.out w' h; go_simp) HB9.out ?_
          simp only [Act.put, List.setIfInBounds_toArray, List.set_cons_zero, List.set_cons_succ]
          refine wpAnyG_one (i := 29) (by kernel_rfl) rfl (by rfl) ?_
          refine wp_hide (fun K' hK' => ?_)
          go_simp
          refine (HQ61.out _ HB9.out).mono ?_
          rintro e w10 ⟨A10, c10, rfl, ho10, hb10⟩
          have hb810 := HB9.out.trans (hb10.mono HB9.out.size)
          have hcv10 := conv_str ho10.bytes c10
          rw [← HE1.out] at hcv10
          have HB10 := Lib.hid hb810
          refine hK' _ _ ⟨fun _ => HB10.out, ?_⟩
          clear hK' K' ho10 hb10 hb810
          refine wpAnyG_one (i := 30) (by kernel_rfl) rfl (by rfl) ?_
          refine wp_value (some 161) rfl (v := .string s1) (w1 := w10) (by go_simp) ⟨fun _ => HB10.out, ?_⟩
          simp only [Act.put, List.setIfInBounds_toArray, List.set_cons_zero, List.set_cons_succ]
          clear hcv10
          refine wpAnyG_take (i := 36) (d := some 167) (v := .bool false) rfl rfl (by kernel_rfl) (by kernel_rfl) (by kernel_rfl) (by kernel_rfl) (by kernel_rfl) (fun _ _ _ h => h) (by rfl) (fun w' h => by go_simp) HB10.out ?_
          simp only [Act.put, List.setIfInBounds_toArray, List.set_cons_zero, List.set_cons_succ]
          refine wpAnyG_take (i := 37) (d := some 168) (v := .bool false) rfl rfl (by kernel_rfl) (by kernel_rfl) (by kernel_rfl) (by kernel_rfl) (by kernel_rfl) (fun _ _ _ h => h) (by rfl) (fun w' h => by go_simp) HB10.out ?_
          simp only [Act.put, List.setIfInBounds_toArray, List.set_cons_zero, List.set_cons_succ]
          refine wpAnyL_done (by kernel_rfl) ?_ _
          have HP := Lib.hid (show PlayAt w g g' (opsW (l.take (k + 1))) w10 from ⟨_, _, J8, HT8.out.later HB10.out, HF8.out.1, HF8.out.2.1⟩)
          clear HT8 HF8 HD3 HD0 HD1 HV0 HV1 HQ65 HQ60 HQ61 HB0 HB9 HB10
          go_wp2
          go_roundw
          case rel => exact ⟨k + 1, by omega, by go_num, HP.out⟩
          case measure => simp [intOf]; omega
      · as_aux_lemma =>
          have hcc := HCP.out.cells
          obtain ⟨y0, y1, y2, y3⟩ := hcc
          clear hcp
          go_wp2_with fail
          refine (jEffect (wo.alloc (.cells #[.int .i64 op.what, .int .u8 (op.kind.toNat : Int), .slice A3 k3 d3, .int .i64 op.num] 80)) g C J HTa.out.a hjf).mono ?_
          rintro e w6 ⟨rfl, hJ6, hK6⟩
          have HT6 := Lib.hid (HTa.out.first hJ6 hK6)
          have hcp6 := HCP.out.kept hK6 HOC.out
          clear hJ6 hK6 y0 y1 y2 y3
          obtain ⟨y0, y1, y2, y3⟩ := hcp6.cells
          clear hcp6
          generalize since (wo.alloc (.cells #[.int .i64 op.what, .int .u8 (op.kind.toNat : Int), .slice A3 k3 d3, .int .i64 op.num] 80)) C w6 = C8 at *
          go_wp2_with fail
          refine (refEffectIn w6 g' D J HT6.out.b hjf).mono ?_
          rintro e w8 ⟨rfl, hJ8, hK8⟩
          have HT8 := Lib.hid (HT6.out.second hJ8 hK8)
          have HF8 := Lib.hid (show (J.eff.2).fits ∧ (J.eff.2).size ≤ opsW (l.take (k + 1)) ∧ (J.eff.2).size ≤ 200000 from ⟨eff_fits HFJ.out, by have := HSJ.out; rw [eff_size]; omega, by have := HSJ.out; rw [eff_size]; omega⟩)
          clear hJ8 hK8 y0 y1 y2 y3 HT6
          generalize since w6 D w8 = D8 at *
          obtain ⟨x, hx⟩ : ∃ x, x = J.eff.1 := ⟨_, rfl⟩
          rw [← hx]
          clear hx
          generalize J.eff.2 = J8 at *
          obtain ⟨A1, n1, c1, A2, n2, c2, hb8⟩ := HT8.out.b
          have hlk := hb8.kept.len
          have hlr := hb8.rest.len
          have hsz8 : n1 + n2 ≤ 200000 := by have := HF8.out.2.2; unfold JV.size at this; omega
          have HD3 := Lib.hid (show ∀ W, Below w8.heap.size w8 W → W.cell? ⟨g', 3, none⟩ = some (.bool J8.down) from fun W hb => (hb.cell (p := ⟨g', 3, none⟩) hb8.lt).trans hb8.cell3)
          have HD0 := Lib.hid (show ∀ W, Below w8.heap.size w8 W → W.cell? ⟨g', 0, none⟩ = some (.slice A1 n1 c1) from fun W hb => (hb.cell (p := ⟨g', 0, none⟩) hb8.lt).trans hb8.cell0)
          have HD1 := Lib.hid (show ∀ W, Below w8.heap.size w8 W → W.cell? ⟨g', 1, none⟩ = some (.slice A2 n2 c2) from fun W hb => (hb.cell (p := ⟨g', 1, none⟩) hb8.lt).trans hb8.cell1)
          have HV0 := Lib.hid (show ∀ W, Below w8.heap.size w8 W → (convert 23 9 (.slice A1 n1 c1)).run Tryd.prog W = .ok (.string (str J8.kept)) W from fun W hb => conv_str (hb8.kept.bytes.below hb) c1)
          have HV1 := Lib.hid (show ∀ W, Below w8.heap.size w8 W → (convert 23 9 (.slice A2 n2 c2)).run Tryd.prog W = .ok (.string (str J8.rest)) W from fun W hb => conv_str (hb8.rest.bytes.below hb) c2)
          have HQ65 := Lib.hid (jDown w8.drew g C8 J8 (HT8.out.a.later (Below.refl _ w8).drew))
          have HQ60 := Lib.hid (show ∀ W, Below w8.heap.size w8 W → Calls Tryd.prog 60 #[.pointer (some ⟨g, 0, none⟩)] W (Copied W n1 J8.kept) from fun W hb => by have := jSynced W g C8 J8 (HT8.out.a.later hb) (by omega); rwa [hlk] at this)
          have HQ61 := Lib.hid (show ∀ W, Below w8.heap.size w8 W → Calls Tryd.prog 61 #[.pointer (some ⟨g, 0, none⟩)] W (Copied W n2 J8.rest) from fun W hb => by have := jTail W g C8 J8 (HT8.out.a.later hb) (by omega); rwa [hlr] at this)
          have HB0 : Hid (Below w8.heap.size w8 w8.drew) := Lib.hid (Below.refl _ w8).drew
          obtain ⟨s0, hs0⟩ : ∃ s, s = str J8.kept := ⟨_, rfl⟩
          obtain ⟨s1, hs1⟩ : ∃ s, s = str J8.rest := ⟨_, rfl⟩
          rw [← hs0] at HV0
          rw [← hs1] at HV1
          have HE0 := Lib.hid hs0
          have HE1 := Lib.hid hs1
          clear hs0 hs1
          generalize J8.down = dn at *
          clear hb8 hlk hlr
          go_wp2_with fail
          refine region_L (fun w' => Below w8.heap.size w8 w') [] (by kernel_rfl) ?_
          simp only [List.size_toArray, List.length_cons, List.length_nil, Nat.reduceAdd, Array.replicate_succ, Array.replicate_zero]
          refine wpAnyG_take (i := 0) (d := some 131) (v := .bool true) rfl rfl (by kernel_rfl) (by kernel_rfl) (by kernel_rfl) (by kernel_rfl) (by kernel_rfl) (fun _ _ _ h => h) (by rfl) (fun w' h => by go_simp) HB0.out ?_
          simp only [Act.put, List.setIfInBounds_toArray, List.set_cons_zero, List.set_cons_succ]
          refine wpAnyG_take (i := 1) (d := some 132) (v := .bool false) rfl rfl (by kernel_rfl) (by kernel_rfl) (by kernel_rfl) (by kernel_rfl) (by kernel_rfl) (fun _ _ _ h => h) (by rfl) (fun w' h => by go_simp) HB0.out ?_
          simp only [Act.put, List.setIfInBounds_toArray, List.set_cons_zero, List.set_cons_succ]
          refine wpAnyG_take (i := 2) (d := some 133) (v := .bool false) rfl rfl (by kernel_rfl) (by kernel_rfl) (by kernel_rfl) (by kernel_rfl) (by kernel_rfl) (fun _ _ _ h => h) (by rfl) (fun w' h => by go_simp) HB0.out ?_
          simp only [Act.put, List.setIfInBounds_toArray, List.set_cons_zero, List.set_cons_succ]
          refine wpAnyG_take (i := 3) (d := some 134) (v := .int .i64 x) rfl rfl (by kernel_rfl) (by kernel_rfl) (by kernel_rfl) (by kernel_rfl) (by kernel_rfl) (fun _ _ _ h => h) (by rfl) (fun w' h => by go_simp) HB0.out ?_
          simp only [Act.put, List.setIfInBounds_toArray, List.set_cons_zero, List.set_cons_succ]
          refine wpAnyG_take (i := 4) (d := some 135) (v := .int .i64 x) rfl rfl (by kernel_rfl) (by kernel_rfl) (by kernel_rfl) (by kernel_rfl) (by kernel_rfl) (fun _ _ _ h => h) (by rfl) (fun w' h => by go_simp) HB0.out ?_
          simp only [Act.put, List.setIfInBounds_toArray, List.set_cons_zero, List.set_cons_succ]
          refine wpAnyG_take (i := 5) (d := some 136) (v := .bool false) rfl rfl (by kernel_rfl) (by kernel_rfl) (by kernel_rfl) (by kernel_rfl) (by kernel_rfl) (fun _ _ _ h => h) (by rfl) (fun w' h => by go_simp) HB0.out ?_
          simp only [Act.put, List.setIfInBounds_toArray, List.set_cons_zero, List.set_cons_succ]
          refine wpAnyG_take (i := 6) (d := some 137) (v := .bool false) rfl rfl (by kernel_rfl) (by kernel_rfl) (by kernel_rfl) (by kernel_rfl) (by kernel_rfl) (fun _ _ _ h => h) (by rfl) (fun w' h => by go_simp) HB0.out ?_
          simp only [Act.put, List.setIfInBounds_toArray, List.set_cons_zero, List.set_cons_succ]
          refine wpAnyG_take (i := 7) (d := some 138) (v := .bool false) rfl rfl (by kernel_rfl) (by kernel_rfl) (by kernel_rfl) (by kernel_rfl) (by kernel_rfl) (fun _ _ _ h => h) (by rfl) (fun w' h => by go_simp) HB0.out ?_
          simp only [Act.put, List.setIfInBounds_toArray, List.set_cons_zero, List.set_cons_succ]
          refine wpAnyG_take (i := 8) (d := some 139) (v := .pointer (some ⟨g, 0, none⟩)) rfl rfl (by kernel_rfl) (by kernel_rfl) (by kernel_rfl) (by kernel_rfl) (by kernel_rfl) (fun _ _ _ h => h) (by rfl) (fun w' h => by go_simp) HB0.out ?_
          simp only [Act.put, List.setIfInBounds_toArray, List.set_cons_zero, List.set_cons_succ]
          refine wpAnyG_take (i := 10) (d := some 141) (v := .pointer (some ⟨g', 0, none⟩)) rfl rfl (by kernel_rfl) (by kernel_rfl) (by kernel_rfl) (by kernel_rfl) (by kernel_rfl) (fun _ _ _ h => h) (by rfl) (fun w' h => by go_simp) HB0.out ?_
          simp only [Act.put, List.setIfInBounds_toArray, List.set_cons_zero, List.set_cons_succ]
          refine wpAnyG_take (i := 11) (d := some 142) (v := .pointer (some ⟨g', 0, none⟩)) rfl rfl (by kernel_rfl) (by kernel_rfl) (by kernel_rfl) (by kernel_rfl) (by kernel_rfl) (fun _ _ _ h => h) (by rfl) (fun w' h => by go_simp) HB0.out ?_
          simp only [Act.put, List.setIfInBounds_toArray, List.set_cons_zero, List.set_cons_succ]
          refine wpAnyG_take (i := 12) (d := some 143) (v := .pointer (some ⟨g', 3, none⟩)) rfl rfl (by kernel_rfl) (by kernel_rfl) (by kernel_rfl) (by kernel_rfl) (by kernel_rfl) (fun _ _ _ h => h) (by rfl) (fun w' h => by go_simp) HB0.out ?_
          simp only [Act.put, List.setIfInBounds_toArray, List.set_cons_zero, List.set_cons_succ]
          refine wpAnyG_take (i := 13) (d := some 144) (v := .bool dn) rfl rfl (by kernel_rfl) (by kernel_rfl) (by kernel_rfl) (by kernel_rfl) (by kernel_rfl) (fun _ _ _ h => h) (by rfl) (fun w' h => by have := HD3.out w' h; go_simp) HB0.out ?_
          simp only [Act.put, List.setIfInBounds_toArray, List.set_cons_zero, List.set_cons_succ]
          refine wpAnyG_one (i := 9) (by kernel_rfl) rfl (by rfl) ?_
          refine wp_hide (fun K' hK' => ?_)
          go_simp
          refine HQ65.out.mono ?_
          rintro e w' ⟨rfl, rfl⟩
          refine hK' _ _ ⟨fun _ => HB0.out, ?_⟩
          clear hK' K'
          refine wpAnyG_take (i := 14) (d := some 145) (v := .bool false) rfl rfl (by kernel_rfl) (by kernel_rfl) (by kernel_rfl) (by kernel_rfl) (by kernel_rfl) (fun _ _ _ h => h) (by rfl) (fun w' h => by go_simp) HB0.out ?_
          simp only [Act.put, List.setIfInBounds_toArray, List.set_cons_zero, List.set_cons_succ]
          refine wpAnyG_take (i := 15) (d := some 146) (v := .bool false) rfl rfl (by kernel_rfl) (by kernel_rfl) (by kernel_rfl) (by kernel_rfl) (by kernel_rfl) (fun _ _ _ h => h) (by rfl) (fun w' h => by go_simp) HB0.out ?_
          simp only [Act.put, List.setIfInBounds_toArray, List.set_cons_zero, List.set_cons_succ]
          refine wpAnyG_take (i := 16) (d := some 147) (v := .bool false) rfl rfl (by kernel_rfl) (by kernel_rfl) (by kernel_rfl) (by kernel_rfl) (by kernel_rfl) (fun _ _ _ h => h) (by rfl) (fun w' h => by go_simp) HB0.out ?_
          simp only [Act.put, List.setIfInBounds_toArray, List.set_cons_zero, List.set_cons_succ]
          refine wpAnyG_take (i := 17) (d := some 148) (v := .pointer (some ⟨g, 0, none⟩)) rfl rfl (by kernel_rfl) (by kernel_rfl) (by kernel_rfl) (by kernel_rfl) (by kernel_rfl) (fun _ _ _ h => h) (by rfl) (fun w' h => by go_simp) HB0.out ?_
          simp only [Act.put, List.setIfInBounds_toArray, List.set_cons_zero, List.set_cons_succ]
          refine wpAnyG_take (i := 20) (d := some 151) (v := .pointer (some ⟨g', 0, none⟩)) rfl rfl (by kernel_rfl) (by kernel_rfl) (by kernel_rfl) (by kernel_rfl) (by kernel_rfl) (fun _ _ _ h => h) (by rfl) (fun w' h => by go_simp) HB0.out ?_
          simp only [Act.put, List.setIfInBounds_toArray, List.set_cons_zero, List.set_cons_succ]
          refine wpAnyG_take (i := 21) (d := some 152) (v := .pointer (some ⟨g', 0, none⟩)) rfl rfl (by kernel_rfl) (by kernel_rfl) (by kernel_rfl) (by kernel_rfl) (by kernel_rfl) (fun _ _ _ h => h) (by rfl) (fun w' h => by go_simp) HB0.out ?_
          simp only [Act.put, List.setIfInBounds_toArray, List.set_cons_zero, List.set_cons_succ]
          refine wpAnyG_take (i := 22) (d := some 153) (v := .pointer (some ⟨g', 0, none⟩)) rfl rfl (by kernel_rfl) (by kernel_rfl) (by kernel_rfl) (by kernel_rfl) (by kernel_rfl) (fun _ _ _ h => h) (by rfl) (fun w' h => by go_simp) HB0.out ?_
          simp only [Act.put, List.setIfInBounds_toArray, List.set_cons_zero, List.set_cons_succ]
          refine wpAnyG_take (i := 23) (d := some 154) (v := .slice A1 n1 c1) rfl rfl (by kernel_rfl) (by kernel_rfl) (by kernel_rfl) (by kernel_rfl) (by kernel_rfl) (fun _ _ _ h => h) (by rfl) (fun w' h => by have := HD0.out w' h; go_simp) HB0.out ?_
          simp only [Act.put, List.setIfInBounds_toArray, List.set_cons_zero, List.set_cons_succ]
          refine wpAnyG_take (i := 24) (d := some 155) (v := .string s0) rfl rfl (by kernel_rfl) (by kernel_rfl) (by kernel_rfl) (by kernel_rfl) (by kernel_rfl) (fun _ _ _ h => h) (by rfl) (fun w' h => by have := HV0.out w' h; go_simp) HB0.out ?_
          simp only [Act.put, List.setIfInBounds_toArray, List.set_cons_zero, List.set_cons_succ]
          refine wpAnyG_one (i := 18) (by kernel_rfl) rfl (by rfl) ?_
          refine wp_hide (fun K' hK' => ?_)
          go_simp
          refine (HQ60.out _ HB0.out).mono ?_
          rintro e w9 ⟨A9, c9, rfl, ho9, hb9⟩
          have hb89 := HB0.out.trans (hb9.mono HB0.out.size)
          have hcv9 := conv_str ho9.bytes c9
          rw [← HE0.out] at hcv9
          have HB9 := Lib.hid hb89
          refine hK' _ _ ⟨fun _ => HB9.out, ?_⟩
          clear hK' K' ho9 hb9 hb89
          refine wpAnyG_one (i := 19) (by kernel_rfl) rfl (by rfl) ?_
          refine wp_value (some 150) rfl (v := .string s0) (w1 := w9) (by go_simp) ⟨fun _ => HB9.out, ?_⟩
          simp only [Act.put, List.setIfInBounds_toArray, List.set_cons_zero, List.set_cons_succ]
          clear hcv9
          refine wpAnyG_take (i := 25) (d := some 156) (v := .bool false) rfl rfl (by kernel_rfl) (by kernel_rfl) (by kernel_rfl) (by kernel_rfl) (by kernel_rfl) (fun _ _ _ h => h) (by rfl) (fun w' h => by go_simp) HB9.out ?_
          simp only [Act.put, List.setIfInBounds_toArray, List.set_cons_zero, List.set_cons_succ]
          refine wpAnyG_take (i := 26) (d := some 157) (v := .bool false) rfl rfl (by kernel_rfl) (by kernel_rfl) (by kernel_rfl) (by kernel_rfl) (by kernel_rfl) (fun _ _ _ h => h) (by rfl) (fun w' h => by go_simp) HB9.out ?_
          simp only [Act.put, List.setIfInBounds_toArray, List.set_cons_zero, List.set_cons_succ]
          refine wpAnyG_take (i := 27) (d := some 158) (v := .bool false) rfl rfl (by kernel_rfl) (by kernel_rfl) (by kernel_rfl) (by kernel_rfl) (by kernel_rfl) (fun _ _ _ h => h) (by rfl) (fun w' h => by go_simp) HB9.out ?_
          simp only [Act.put, List.setIfInBounds_toArray, List.set_cons_zero, List.set_cons_succ]
          refine wpAnyG_take (i := 28) (d := some 159) (v := .pointer (some ⟨g, 0, none⟩)) rfl rfl (by kernel_rfl) (by kernel_rfl) (by kernel_rfl) (by kernel_rfl) (by kernel_rfl) (fun _ _ _ h => h) (by rfl) (fun w' h => by go_simp) HB9.out ?_
          simp only [Act.put, List.setIfInBounds_toArray, List.set_cons_zero, List.set_cons_succ]
          refine wpAnyG_take (i := 31) (d := some 162) (v := .pointer (some ⟨g', 0, none⟩)) rfl rfl (by kernel_rfl) (by kernel_rfl) (by kernel_rfl) (by kernel_rfl) (by kernel_rfl) (fun _ _ _ h => h) (by rfl) (fun w' h => by go_simp) HB9.out ?_
          simp only [Act.put, List.setIfInBounds_toArray, List.set_cons_zero, List.set_cons_succ]
          refine wpAnyG_take (i := 32) (d := some 163) (v := .pointer (some ⟨g', 0, none⟩)) rfl rfl (by kernel_rfl) (by kernel_rfl) (by kernel_rfl) (by kernel_rfl) (by kernel_rfl) (fun _ _ _ h => h) (by rfl) (fun w' h => by go_simp) HB9.out ?_
          simp only [Act.put, List.setIfInBounds_toArray, List.set_cons_zero, List.set_cons_succ]
          refine wpAnyG_take (i := 33) (d := some 164) (v := .pointer (some ⟨g', 1, none⟩)) rfl rfl (by kernel_rfl) (by kernel_rfl) (by kernel_rfl) (by kernel_rfl) (by kernel_rfl) (fun _ _ _ h => h) (by rfl) (fun w' h => by go_simp) HB9.out ?_
          simp only [Act.put, List.setIfInBounds_toArray, List.set_cons_zero, List.set_cons_succ]
          refine wpAnyG_take (i := 34) (d := some 165) (v := .slice A2 n2 c2) rfl rfl (by kernel_rfl) (by kernel_rfl) (by kernel_rfl) (by kernel_rfl) (by kernel_rfl) (fun _ _ _ h => h) (by rfl) (fun w' h => by have := HD1.out w' h; go_simp) HB9.out ?_
          simp only [Act.put, List.setIfInBounds_toArray, List.set_cons_zero, List.set_cons_succ]
          refine wpAnyG_take (i := 35) (d := some 166) (v := .string s1) rfl rfl (by kernel_rfl) (by kernel_rfl) (by kernel_rfl) (by kernel_rfl) (by kernel_rfl) (fun _ _ _ h => h) (by rfl) (fun w' h => by have := HV1.out w' h; go_simp) HB9.out ?_
          simp only [Act.put, List.setIfInBounds_toArray, List.set_cons_zero, List.set_cons_succ]
          refine wpAnyG_one (i := 29) (by kernel_rfl) rfl (by rfl) ?_
          refine wp_hide (fun K' hK' => ?_)
          go_simp
          refine (HQ61.out _ HB9.out).mono ?_
          rintro e w10 ⟨A10, c10, rfl, ho10, hb10⟩
          have hb810 := HB9.out.trans (hb10.mono HB9.out.size)
          have hcv10 := conv_str ho10.bytes c10
          rw [← HE1.out] at hcv10
          have HB10 := Lib.hid hb810
          refine hK' _ _ ⟨fun _ => HB10.out, ?_⟩
          clear hK' K' ho10 hb10 hb810
          refine wpAnyG_one (i := 30) (by kernel_rfl) rfl (by rfl) ?_
          refine wp_value (some 161) rfl (v := .string s1) (w1 := w10) (by go_simp) ⟨fun _ => HB10.out, ?_⟩
          simp only [Act.put, List.setIfInBounds_toArray, List.set_cons_zero, List.set_cons_succ]
          clear hcv10
          refine wpAnyG_take (i := 36) (d := some 167) (v := .bool false) rfl rfl (by kernel_rfl) (by kernel_rfl) (by kernel_rfl) (by kernel_rfl) (by kernel_rfl) (fun _ _ _ h => h) (by rfl) (fun w' h => by go_simp) HB10.out ?_
          simp only [Act.put, List.setIfInBounds_toArray, List.set_cons_zero, List.set_cons_succ]
          refine wpAnyG_take (i := 37) (d := some 168) (v := .bool false) rfl rfl (by kernel_rfl) (by kernel_rfl) (by kernel_rfl) (by kernel_rfl) (by kernel_rfl) (fun _ _ _ h => h) (by rfl) (fun w' h => by go_simp) HB10.out ?_
          simp only [Act.put, List.setIfInBounds_toArray, List.set_cons_zero, List.set_cons_succ]
          refine wpAnyL_done (by kernel_rfl) ?_ _
          have HP := Lib.hid (show PlayAt w g g' (opsW (l.take (k + 1))) w10 from ⟨_, _, J8, HT8.out.later HB10.out, HF8.out.1, HF8.out.2.1⟩)
          clear HT8 HF8 HD3 HD0 HD1 HV0 HV1 HQ65 HQ60 HQ61 HB0 HB9 HB10
          go_wp2
          go_roundw
          case rel => exact ⟨k + 1, by omega, by go_num, HP.out⟩
          case measure => simp [intOf]; omega
      · as_aux_lemma =>
          have hcc := HCP.out.cells
          obtain ⟨y0, y1, y2, y3⟩ := hcc
          clear hcp
          go_wp2_with fail
          refine (jFuse (wo.alloc (.cells #[.int .i64 op.what, .int .u8 (op.kind.toNat : Int), .slice A3 k3 d3, .int .i64 op.num] 80)) g C J HTa.out.a op.num).mono ?_
          rintro e w6 ⟨⟨v6, rfl⟩, hJ6, hK6⟩
          have HT6 := Lib.hid (HTa.out.first hJ6 hK6)
          have hcp6 := HCP.out.kept hK6 HOC.out
          clear hJ6 hK6 y0 y1 y2 y3
          obtain ⟨y0, y1, y2, y3⟩ := hcp6.cells
          clear hcp6
          generalize since (wo.alloc (.cells #[.int .i64 op.what, .int .u8 (op.kind.toNat : Int), .slice A3 k3 d3, .int .i64 op.num] 80)) C w6 = C8 at *
          go_wp2_with fail
          refine (refFuse w6 g' D J HT6.out.b op.num).mono ?_
          rintro e w8 ⟨⟨v8, rfl⟩, hJ8, hK8⟩
          have HT8 := Lib.hid (HT6.out.second hJ8 hK8)
          have HF8 := Lib.hid (show (J.setFuse op.num).fits ∧ (J.setFuse op.num).size ≤ opsW (l.take (k + 1)) ∧ (J.setFuse op.num).size ≤ 200000 from ⟨fuse_fits _ hnum, by have := HSJ.out; rw [fuse_size]; omega, by have := HSJ.out; rw [fuse_size]; omega⟩)
          clear hJ8 hK8 y0 y1 y2 y3 HT6
          generalize since w6 D w8 = D8 at *
          generalize J.setFuse op.num = J8 at *
          obtain ⟨A1, n1, c1, A2, n2, c2, hb8⟩ := HT8.out.b
          have hlk := hb8.kept.len
          have hlr := hb8.rest.len
          have hsz8 : n1 + n2 ≤ 200000 := by have := HF8.out.2.2; unfold JV.size at this; omega
          have HD3 := Lib.hid (show ∀ W, Below w8.heap.size w8 W → W.cell? ⟨g', 3, none⟩ = some (.bool J8.down) from fun W hb => (hb.cell (p := ⟨g', 3, none⟩) hb8.lt).trans hb8.cell3)
          have HD0 := Lib.hid (show ∀ W, Below w8.heap.size w8 W → W.cell? ⟨g', 0, none⟩ = some (.slice A1 n1 c1) from fun W hb => (hb.cell (p := ⟨g', 0, none⟩) hb8.lt).trans hb8.cell0)
          have HD1 := Lib.hid (show ∀ W, Below w8.heap.size w8 W → W.cell? ⟨g', 1, none⟩ = some (.slice A2 n2 c2) from fun W hb => (hb.cell (p := ⟨g', 1, none⟩) hb8.lt).trans hb8.cell1)
          have HV0 := Lib.hid (show ∀ W, Below w8.heap.size w8 W → (convert 23 9 (.slice A1 n1 c1)).run Tryd.prog W = .ok (.string (str J8.kept)) W from fun W hb => conv_str (hb8.kept.bytes.below hb) c1)
          have HV1 := Lib.hid (show ∀ W, Below w8.heap.size w8 W → (convert 23 9 (.slice A2 n2 c2)).run Tryd.prog W = .ok (.string (str J8.rest)) W from fun W hb => conv_str (hb8.rest.bytes.below hb) c2)
          have HQ65 := Lib.hid (jDown w8.drew g C8 J8 (HT8.out.a.later (Below.refl _ w8).drew))
          have HQ60 := Lib.hid (show ∀ W, Below w8.heap.size w8 W → Calls Tryd.prog 60 #[.pointer (some ⟨g, 0, none⟩)] W (Copied W n1 J8.kept) from fun W hb => by have := jSynced W g C8 J8 (HT8.out.a.later hb) (by omega); rwa [hlk] at this)
          have HQ61 := Lib.hid (show ∀ W, Below w8.heap.size w8 W → Calls Tryd.prog 61 #[.pointer (some ⟨g, 0, none⟩)] W (Copied W n2 J8.rest) from fun W hb => by have := jTail W g C8 J8 (HT8.out.a.later hb) (by omega); rwa [hlr] at this)
          have HB0 : Hid (Below w8.heap.size w8 w8.drew) := Lib.hid (Below.refl _ w8).drew
          obtain ⟨s0, hs0⟩ : ∃ s, s = str J8.kept := ⟨_, rfl⟩
          obtain ⟨s1, hs1⟩ : ∃ s, s = str J8.rest := ⟨_, rfl⟩
          rw [← hs0] at HV0
          rw [← hs1] at HV1
          have HE0 := Lib.hid hs0
          have HE1 := Lib.hid hs1
          clear hs0 hs1
          generalize J8.down = dn at *
          clear hb8 hlk hlr
          go_wp2_with fail
          refine region_L (fun w' => Below w8.heap.size w8 w') [] (by kernel_rfl) ?_
          simp only [List.size_toArray, List.length_cons, List.length_nil, Nat.reduceAdd, Array.replicate_succ, Array.replicate_zero]
          refine wpAnyG_take (i := 0) (d := some 131) (v := .bool true) rfl rfl (by kernel_rfl) (by kernel_rfl) (by kernel_rfl) (by kernel_rfl) (by kernel_rfl) (fun _ _ _ h => h) (by rfl) (fun w' h => by go_simp) HB0.out ?_
          simp only [Act.put, List.setIfInBounds_toArray, List.set_cons_zero, List.set_cons_succ]
          refine wpAnyG_take (i := 1) (d := some 132) (v := .bool false) rfl rfl (by kernel_rfl) (by kernel_rfl) (by kernel_rfl) (by kernel_rfl) (by kernel_rfl) (fun _ _ _ h => h) (by rfl) (fun w' h => by go_simp) HB0.out ?_
          simp only [Act.put, List.setIfInBounds_toArray, List.set_cons_zero, List.set_cons_succ]
          refine wpAnyG_take (i := 2) (d := some 133) (v := .bool false) rfl rfl (by kernel_rfl) (by kernel_rfl) (by kernel_rfl) (by kernel_rfl) (by kernel_rfl) (fun _ _ _ h => h) (by rfl) (fun w' h => by go_simp) HB0.out ?_
          simp only [Act.put, List.setIfInBounds_toArray, List.set_cons_zero, List.set_cons_succ]
          refine wpAnyG_take (i := 3) (d := some 134) (v := .int .i64 0) rfl rfl (by kernel_rfl) (by kernel_rfl) (by kernel_rfl) (by kernel_rfl) (by kernel_rfl) (fun _ _ _ h => h) (by rfl) (fun w' h => by go_simp) HB0.out ?_
          simp only [Act.put, List.setIfInBounds_toArray, List.set_cons_zero, List.set_cons_succ]
          refine wpAnyG_take (i := 4) (d := some 135) (v := .int .i64 0) rfl rfl (by kernel_rfl) (by kernel_rfl) (by kernel_rfl) (by kernel_rfl) (by kernel_rfl) (fun _ _ _ h => h) (by rfl) (fun w' h => by go_simp) HB0.out ?_
          simp only [Act.put, List.setIfInBounds_toArray, List.set_cons_zero, List.set_cons_succ]
          refine wpAnyG_take (i := 5) (d := some 136) (v := .bool false) rfl rfl (by kernel_rfl) (by kernel_rfl) (by kernel_rfl) (by kernel_rfl) (by kernel_rfl) (fun _ _ _ h => h) (by rfl) (fun w' h => by go_simp) HB0.out ?_
          simp only [Act.put, List.setIfInBounds_toArray, List.set_cons_zero, List.set_cons_succ]
          refine wpAnyG_take (i := 6) (d := some 137) (v := .bool false) rfl rfl (by kernel_rfl) (by kernel_rfl) (by kernel_rfl) (by kernel_rfl) (by kernel_rfl) (fun _ _ _ h => h) (by rfl) (fun w' h => by go_simp) HB0.out ?_
          simp only [Act.put, List.setIfInBounds_toArray, List.set_cons_zero, List.set_cons_succ]
          refine wpAnyG_take (i := 7) (d := some 138) (v := .bool false) rfl rfl (by kernel_rfl) (by kernel_rfl) (by kernel_rfl) (by kernel_rfl) (by kernel_rfl) (fun _ _ _ h => h) (by rfl) (fun w' h => by go_simp) HB0.out ?_
          simp only [Act.put, List.setIfInBounds_toArray, List.set_cons_zero, List.set_cons_succ]
          refine wpAnyG_take (i := 8) (d := some 139) (v := .pointer (some ⟨g, 0, none⟩)) rfl rfl (by kernel_rfl) (by kernel_rfl) (by kernel_rfl) (by kernel_rfl) (by kernel_rfl) (fun _ _ _ h => h) (by rfl) (fun w' h => by go_simp) HB0.out ?_
          simp only [Act.put, List.setIfInBounds_toArray, List.set_cons_zero, List.set_cons_succ]
          refine wpAnyG_take (i := 10) (d := some 141) (v := .pointer (some ⟨g', 0, none⟩)) rfl rfl (by kernel_rfl) (by kernel_rfl) (by kernel_rfl) (by kernel_rfl) (by kernel_rfl) (fun _ _ _ h => h) (by rfl) (fun w' h => by go_simp) HB0.out ?_
          simp only [Act.put, List.setIfInBounds_toArray, List.set_cons_zero, List.set_cons_succ]
          refine wpAnyG_take (i := 11) (d := some 142) (v := .pointer (some ⟨g', 0, none⟩)) rfl rfl (by kernel_rfl) (by kernel_rfl) (by kernel_rfl) (by kernel_rfl) (by kernel_rfl) (fun _ _ _ h => h) (by rfl) (fun w' h => by go_simp) HB0.out ?_
          simp only [Act.put, List.setIfInBounds_toArray, List.set_cons_zero, List.set_cons_succ]
          refine wpAnyG_take (i := 12) (d := some 143) (v := .pointer (some ⟨g', 3, none⟩)) rfl rfl (by kernel_rfl) (by kernel_rfl) (by kernel_rfl) (by kernel_rfl) (by kernel_rfl) (fun _ _ _ h => h) (by rfl) (fun w' h => by go_simp) HB0.out ?_
          simp only [Act.put, List.setIfInBounds_toArray, List.set_cons_zero, List.set_cons_succ]
          refine wpAnyG_take (i := 13) (d := some 144) (v := .bool dn) rfl rfl (by kernel_rfl) (by kernel_rfl) (by kernel_rfl) (by kernel_rfl) (by kernel_rfl) (fun _ _ _ h => h) (by rfl) (fun w' h => by have := HD3.out w' h; go_simp) HB0.out ?_
          simp only [Act.put, List.setIfInBounds_toArray, List.set_cons_zero, List.set_cons_succ]
          refine wpAnyG_one (i := 9) (by kernel_rfl) rfl (by rfl) ?_
          refine wp_hide (fun K' hK' => ?_)
          go_simp
          refine HQ65.out.mono ?_
          rintro e w' ⟨rfl, rfl⟩
          refine hK' _ _ ⟨fun _ => HB0.out, ?_⟩
          clear hK' K'
          refine wpAnyG_take (i := 14) (d := some 145) (v := .bool false) rfl rfl (by kernel_rfl) (by kernel_rfl) (by kernel_rfl) (by kernel_rfl) (by kernel_rfl) (fun _ _ _ h => h) (by rfl) (fun w' h => by go_simp) HB0.out ?_
          simp only [Act.put, List.setIfInBounds_toArray, List.set_cons_zero, List.set_cons_succ]
          refine wpAnyG_take (i := 15) (d := some 146) (v := .bool false) rfl rfl (by kernel_rfl) (by kernel_rfl) (by kernel_rfl) (by kernel_rfl) (by kernel_rfl) (fun _ _ _ h => h) (by rfl) (fun w' h => by go_simp) HB0.out ?_
          simp only [Act.put, List.setIfInBounds_toArray, List.set_cons_zero, List.set_cons_succ]
          refine wpAnyG_take (i := 16) (d := some 147) (v := .bool false) rfl rfl (by kernel_rfl) (by kernel_rfl) (by kernel_rfl) (by kernel_rfl) (by kernel_rfl) (fun _ _ _ h => h) (by rfl) (fun w' h => by go_simp) HB0.out ?_
          simp only [Act.put, List.setIfInBounds_toArray, List.set_cons_zero, List.set_cons_succ]
          refine wpAnyG_take (i := 17) (d := some 148) (v := .pointer (some ⟨g, 0, none⟩)) rfl rfl (by kernel_rfl) (by kernel_rfl) (by kernel_rfl) (by kernel_rfl) (by kernel_rfl) (fun _ _ _ h => h) (by rfl) (fun w' h => by go_simp) HB0.out ?_
          simp only [Act.put, List.setIfInBounds_toArray, List.set_cons_zero, List.set_cons_succ]
          refine wpAnyG_take (i := 20) (d := some 151) (v := .pointer (some ⟨g', 0, none⟩)) rfl rfl (by kernel_rfl) (by kernel_rfl) (by kernel_rfl) (by kernel_rfl) (by kernel_rfl) (fun _ _ _ h => h) (by rfl) (fun w' h => by go_simp) HB0.out ?_
          simp only [Act.put, List.setIfInBounds_toArray, List.set_cons_zero, List.set_cons_succ]
          refine wpAnyG_take (i := 21) (d := some 152) (v := .pointer (some ⟨g', 0, none⟩)) rfl rfl (by kernel_rfl) (by kernel_rfl) (by kernel_rfl) (by kernel_rfl) (by kernel_rfl) (fun _ _ _ h => h) (by rfl) (fun w' h => by go_simp) HB0.out ?_
          simp only [Act.put, List.setIfInBounds_toArray, List.set_cons_zero, List.set_cons_succ]
          refine wpAnyG_take (i := 22) (d := some 153) (v := .pointer (some ⟨g', 0, none⟩)) rfl rfl (by kernel_rfl) (by kernel_rfl) (by kernel_rfl) (by kernel_rfl) (by kernel_rfl) (fun _ _ _ h => h) (by rfl) (fun w' h => by go_simp) HB0.out ?_
          simp only [Act.put, List.setIfInBounds_toArray, List.set_cons_zero, List.set_cons_succ]
          refine wpAnyG_take (i := 23) (d := some 154) (v := .slice A1 n1 c1) rfl rfl (by kernel_rfl) (by kernel_rfl) (by kernel_rfl) (by kernel_rfl) (by kernel_rfl) (fun _ _ _ h => h) (by rfl) (fun w' h => by have := HD0.out w' h; go_simp) HB0.out ?_
          simp only [Act.put, List.setIfInBounds_toArray, List.set_cons_zero, List.set_cons_succ]
          refine wpAnyG_take (i := 24) (d := some 155) (v := .string s0) rfl rfl (by kernel_rfl) (by kernel_rfl) (by kernel_rfl) (by kernel_rfl) (by kernel_rfl) (fun _ _ _ h => h) (by rfl) (fun w' h => by have := HV0.out w' h; go_simp) HB0.out ?_
          simp only [Act.put, List.setIfInBounds_toArray, List.set_cons_zero, List.set_cons_succ]
          refine wpAnyG_one (i := 18) (by kernel_rfl) rfl (by rfl) ?_
          refine wp_hide (fun K' hK' => ?_)
          go_simp
          refine (HQ60.out _ HB0.out).mono ?_
          rintro e w9 ⟨A9, c9, rfl, ho9, hb9⟩
          have hb89 := HB0.out.trans (hb9.mono HB0.out.size)
          have hcv9 := conv_str ho9.bytes c9
          rw [← HE0.out] at hcv9
          have HB9 := Lib.hid hb89
          refine hK' _ _ ⟨fun _ => HB9.out, ?_⟩
          clear hK' K' ho9 hb9 hb89
          refine wpAnyG_one (i := 19) (by kernel_rfl) rfl (by rfl) ?_
          refine wp_value (some 150) rfl (v := .string s0) (w1 := w9) (by go_simp) ⟨fun _ => HB9.out, ?_⟩
          simp only [Act.put, List.setIfInBounds_toArray, List.set_cons_zero, List.set_cons_succ]
          clear hcv9
          refine wpAnyG_take (i := 25) (d := some 156) (v := .bool false) rfl rfl (by kernel_rfl) (by kernel_rfl) (by kernel_rfl) (by kernel_rfl) (by kernel_rfl) (fun _ _ _ h => h) (by rfl) (fun w' h => by go_simp) HB9.out ?_
          simp only [Act.put, List.setIfInBounds_toArray, List.set_cons_zero, List.set_cons_succ]
          refine wpAnyG_take (i := 26) (d := some 157) (v := .bool false) rfl rfl (by kernel_rfl) (by kernel_rfl) (by kernel_rfl) (by kernel_rfl) (by kernel_rfl) (fun _ _ _ h => h) (by rfl) (fun w' h => by go_simp) HB9.out ?_
          simp only [Act.put, List.setIfInBounds_toArray, List.set_cons_zero, List.set_cons_succ]
          refine wpAnyG_take (i := 27) (d := some 158) (v := .bool false) rfl rfl (by kernel_rfl) (by kernel_rfl) (by kernel_rfl) (by kernel_rfl) (by kernel_rfl) (fun _ _ _ h => h) (by rfl) (fun w' h => by go_simp) HB9.out ?_
          simp only [Act.put, List.setIfInBounds_toArray, List.set_cons_zero, List.set_cons_succ]
          refine wpAnyG_take (i := 28) (d := some 159) (v := .pointer (some ⟨g, 0, none⟩)) rfl rfl (by kernel_rfl) (by kernel_rfl) (by kernel_rfl) (by kernel_rfl) (by kernel_rfl) (fun _ _ _ h => h) (by rfl) (fun w' h => by go_simp) HB9.out ?_
          simp only [Act.put, List.setIfInBounds_toArray, List.set_cons_zero, List.set_cons_succ]
          refine wpAnyG_take (i := 31) (d := some 162) (v := .pointer (some ⟨g', 0, none⟩)) rfl rfl (by kernel_rfl) (by kernel_rfl) (by kernel_rfl) (by kernel_rfl) (by kernel_rfl) (fun _ _ _ h => h) (by rfl) (fun w' h => by go_simp) HB9.out ?_
          simp only [Act.put, List.setIfInBounds_toArray, List.set_cons_zero, List.set_cons_succ]
          refine wpAnyG_take (i := 32) (d := some 163) (v := .pointer (some ⟨g', 0, none⟩)) rfl rfl (by kernel_rfl) (by kernel_rfl) (by kernel_rfl) (by kernel_rfl) (by kernel_rfl) (fun _ _ _ h => h) (by rfl) (fun w' h => by go_simp) HB9.out ?_
          simp only [Act.put, List.setIfInBounds_toArray, List.set_cons_zero, List.set_cons_succ]
          refine wpAnyG_take (i := 33) (d := some 164) (v := .pointer (some ⟨g', 1, none⟩)) rfl rfl (by kernel_rfl) (by kernel_rfl) (by kernel_rfl) (by kernel_rfl) (by kernel_rfl) (fun _ _ _ h => h) (by rfl) (fun w' h => by go_simp) HB9.out ?_
          simp only [Act.put, List.setIfInBounds_toArray, List.set_cons_zero, List.set_cons_succ]
          refine wpAnyG_take (i := 34) (d := some 165) (v := .slice A2 n2 c2) rfl rfl (by kernel_rfl) (by kernel_rfl) (by kernel_rfl) (by kernel_rfl) (by kernel_rfl) (fun _ _ _ h => h) (by rfl) (fun w' h => by have := HD1.out w' h; go_simp) HB9.out ?_
          simp only [Act.put, List.setIfInBounds_toArray, List.set_cons_zero, List.set_cons_succ]
          refine wpAnyG_take (i := 35) (d := some 166) (v := .string s1) rfl rfl (by kernel_rfl) (by kernel_rfl) (by kernel_rfl) (by kernel_rfl) (by kernel_rfl) (fun _ _ _ h => h) (by rfl) (fun w' h => by have := HV1.out w' h; go_simp) HB9.out ?_
          simp only [Act.put, List.setIfInBounds_toArray, List.set_cons_zero, List.set_cons_succ]
          refine wpAnyG_one (i := 29) (by kernel_rfl) rfl (by rfl) ?_
          refine wp_hide (fun K' hK' => ?_)
          go_simp
          refine (HQ61.out _ HB9.out).mono ?_
          rintro e w10 ⟨A10, c10, rfl, ho10, hb10⟩
          have hb810 := HB9.out.trans (hb10.mono HB9.out.size)
          have hcv10 := conv_str ho10.bytes c10
          rw [← HE1.out] at hcv10
          have HB10 := Lib.hid hb810
          refine hK' _ _ ⟨fun _ => HB10.out, ?_⟩
          clear hK' K' ho10 hb10 hb810
          refine wpAnyG_one (i := 30) (by kernel_rfl) rfl (by rfl) ?_
          refine wp_value (some 161) rfl (v := .string s1) (w1 := w10) (by go_simp) ⟨fun _ => HB10.out, ?_⟩
          simp only [Act.put, List.setIfInBounds_toArray, List.set_cons_zero, List.set_cons_succ]
          clear hcv10
          refine wpAnyG_take (i := 36) (d := some 167) (v := .bool false) rfl rfl (by kernel_rfl) (by kernel_rfl) (by kernel_rfl) (by kernel_rfl) (by kernel_rfl) (fun _ _ _ h => h) (by rfl) (fun w' h => by go_simp) HB10.out ?_
          simp only [Act.put, List.setIfInBounds_toArray, List.set_cons_zero, List.set_cons_succ]
          refine wpAnyG_take (i := 37) (d := some 168) (v := .bool false) rfl rfl (by kernel_rfl) (by kernel_rfl) (by kernel_rfl) (by kernel_rfl) (by kernel_rfl) (fun _ _ _ h => h) (by rfl) (fun w' h => by go_simp) HB10.out ?_
          simp only [Act.put, List.setIfInBounds_toArray, List.set_cons_zero, List.set_cons_succ]
          refine wpAnyL_done (by kernel_rfl) ?_ _
          have HP := Lib.hid (show PlayAt w g g' (opsW (l.take (k + 1))) w10 from ⟨_, _, J8, HT8.out.later HB10.out, HF8.out.1, HF8.out.2.1⟩)
          clear HT8 HF8 HD3 HD0 HD1 HV0 HV1 HQ65 HQ60 HQ61 HB0 HB9 HB10
          go_wp2
          go_roundw
          case rel => exact ⟨k + 1, by omega, by go_num, HP.out⟩
          case measure => simp [intOf]; omega
      · as_aux_lemma =>
          have hcc := HCP.out.cells
          obtain ⟨y0, y1, y2, y3⟩ := hcc
          clear hcp
          go_wp2_with fail
          refine (jCrash (wo.alloc (.cells #[.int .i64 op.what, .int .u8 (op.kind.toNat : Int), .slice A3 k3 d3, .int .i64 op.num] 80)) g C J HTa.out.a hjk op.num).mono ?_
          rintro e w6 ⟨⟨v6, rfl⟩, hJ6, hK6⟩
          have HT6 := Lib.hid (HTa.out.first hJ6 hK6)
          have hcp6 := HCP.out.kept hK6 HOC.out
          clear hJ6 hK6 y0 y1 y2 y3
          obtain ⟨y0, y1, y2, y3⟩ := hcp6.cells
          clear hcp6
          generalize since (wo.alloc (.cells #[.int .i64 op.what, .int .u8 (op.kind.toNat : Int), .slice A3 k3 d3, .int .i64 op.num] 80)) C w6 = C8 at *
          go_wp2_with fail
          refine (refCrash w6 g' D J HT6.out.b hjk op.num).mono ?_
          rintro e w8 ⟨⟨v8, rfl⟩, hJ8, hK8⟩
          have HT8 := Lib.hid (HT6.out.second hJ8 hK8)
          have HF8 := Lib.hid (show (J.crash op.num).fits ∧ (J.crash op.num).size ≤ opsW (l.take (k + 1)) ∧ (J.crash op.num).size ≤ 200000 from ⟨crash_fits J op.num, by have := HSJ.out; have := crash_size op.num J; omega, by have := HSJ.out; have := crash_size op.num J; omega⟩)
          clear hJ8 hK8 y0 y1 y2 y3 HT6
          generalize since w6 D w8 = D8 at *
          generalize J.crash op.num = J8 at *
          obtain ⟨A1, n1, c1, A2, n2, c2, hb8⟩ := HT8.out.b
          have hlk := hb8.kept.len
          have hlr := hb8.rest.len
          have hsz8 : n1 + n2 ≤ 200000 := by have := HF8.out.2.2; unfold JV.size at this; omega
          have HD3 := Lib.hid (show ∀ W, Below w8.heap.size w8 W → W.cell? ⟨g', 3, none⟩ = some (.bool J8.down) from fun W hb => (hb.cell (p := ⟨g', 3, none⟩) hb8.lt).trans hb8.cell3)
          have HD0 := Lib.hid (show ∀ W, Below w8.heap.size w8 W → W.cell? ⟨g', 0, none⟩ = some (.slice A1 n1 c1) from fun W hb => (hb.cell (p := ⟨g', 0, none⟩) hb8.lt).trans hb8.cell0)
          have HD1 := Lib.hid (show ∀ W, Below w8.heap.size w8 W → W.cell? ⟨g', 1, none⟩ = some (.slice A2 n2 c2) from fun W hb => (hb.cell (p := ⟨g', 1, none⟩) hb8.lt).trans hb8.cell1)
          have HV0 := Lib.hid (show ∀ W, Below w8.heap.size w8 W → (convert 23 9 (.slice A1 n1 c1)).run Tryd.prog W = .ok (.string (str J8.kept)) W from fun W hb => conv_str (hb8.kept.bytes.below hb) c1)
          have HV1 := Lib.hid (show ∀ W, Below w8.heap.size w8 W → (convert 23 9 (.slice A2 n2 c2)).run Tryd.prog W = .ok (.string (str J8.rest)) W from fun W hb => conv_str (hb8.rest.bytes.below hb) c2)
          have HQ65 := Lib.hid (jDown w8.drew g C8 J8 (HT8.out.a.later (Below.refl _ w8).drew))
          have HQ60 := Lib.hid (show ∀ W, Below w8.heap.size w8 W → Calls Tryd.prog 60 #[.pointer (some ⟨g, 0, none⟩)] W (Copied W n1 J8.kept) from fun W hb => by have := jSynced W g C8 J8 (HT8.out.a.later hb) (by omega); rwa [hlk] at this)
          have HQ61 := Lib.hid (show ∀ W, Below w8.heap.size w8 W → Calls Tryd.prog 61 #[.pointer (some ⟨g, 0, none⟩)] W (Copied W n2 J8.rest) from fun W hb => by have := jTail W g C8 J8 (HT8.out.a.later hb) (by omega); rwa [hlr] at this)
          have HB0 : Hid (Below w8.heap.size w8 w8.drew) := Lib.hid (Below.refl _ w8).drew
          obtain ⟨s0, hs0⟩ : ∃ s, s = str J8.kept := ⟨_, rfl⟩
          obtain ⟨s1, hs1⟩ : ∃ s, s = str J8.rest := ⟨_, rfl⟩
          rw [← hs0] at HV0
          rw [← hs1] at HV1
          have HE0 := Lib.hid hs0
          have HE1 := Lib.hid hs1
          clear hs0 hs1
          generalize J8.down = dn at *
          clear hb8 hlk hlr
          go_wp2_with fail
          refine region_L (fun w' => Below w8.heap.size w8 w') [] (by kernel_rfl) ?_
          simp only [List.size_toArray, List.length_cons, List.length_nil, Nat.reduceAdd, Array.replicate_succ, Array.replicate_zero]
          refine wpAnyG_take (i := 0) (d := some 131) (v := .bool true) rfl rfl (by kernel_rfl) (by kernel_rfl) (by kernel_rfl) (by kernel_rfl) (by kernel_rfl) (fun _ _ _ h => h) (by rfl) (fun w' h => by go_simp) HB0.out ?_
          simp only [Act.put, List.setIfInBounds_toArray, List.set_cons_zero, List.set_cons_succ]
          refine wpAnyG_take (i := 1) (d := some 132) (v := .bool false) rfl rfl (by kernel_rfl) (by kernel_rfl) (by kernel_rfl) (by kernel_rfl) (by kernel_rfl) (fun _ _ _ h => h) (by rfl) (fun w' h => by go_simp) HB0.out ?_
          simp only [Act.put, List.setIfInBounds_toArray, List.set_cons_zero, List.set_cons_succ]
          refine wpAnyG_take (i := 2) (d := some 133) (v := .bool false) rfl rfl (by kernel_rfl) (by kernel_rfl) (by kernel_rfl) (by kernel_rfl) (by kernel_rfl) (fun _ _ _ h => h) (by rfl) (fun w' h => by go_simp) HB0.out ?_
          simp only [Act.put, List.setIfInBounds_toArray, List.set_cons_zero, List.set_cons_succ]
          refine wpAnyG_take (i := 3) (d := some 134) (v := .int .i64 0) rfl rfl (by kernel_rfl) (by kernel_rfl) (by kernel_rfl) (by kernel_rfl) (by kernel_rfl) (fun _ _ _ h => h) (by rfl) (fun w' h => by go_simp) HB0.out ?_
          simp only [Act.put, List.setIfInBounds_toArray, List.set_cons_zero, List.set_cons_succ]
          refine wpAnyG_take (i := 4) (d := some 135) (v := .int .i64 0) rfl rfl (by kernel_rfl) (by kernel_rfl) (by kernel_rfl) (by kernel_rfl) (by kernel_rfl) (fun _ _ _ h => h) (by rfl) (fun w' h => by go_simp) HB0.out ?_
          simp only [Act.put, List.setIfInBounds_toArray, List.set_cons_zero, List.set_cons_succ]
          refine wpAnyG_take (i := 5) (d := some 136) (v := .bool false) rfl rfl (by kernel_rfl) (by kernel_rfl) (by kernel_rfl) (by kernel_rfl) (by kernel_rfl) (fun _ _ _ h => h) (by rfl) (fun w' h => by go_simp) HB0.out ?_
          simp only [Act.put, List.setIfInBounds_toArray, List.set_cons_zero, List.set_cons_succ]
          refine wpAnyG_take (i := 6) (d := some 137) (v := .bool false) rfl rfl (by kernel_rfl) (by kernel_rfl) (by kernel_rfl) (by kernel_rfl) (by kernel_rfl) (fun _ _ _ h => h) (by rfl) (fun w' h => by go_simp) HB0.out ?_
          simp only [Act.put, List.setIfInBounds_toArray, List.set_cons_zero, List.set_cons_succ]
          refine wpAnyG_take (i := 7) (d := some 138) (v := .bool false) rfl rfl (by kernel_rfl) (by kernel_rfl) (by kernel_rfl) (by kernel_rfl) (by kernel_rfl) (fun _ _ _ h => h) (by rfl) (fun w' h => by go_simp) HB0.out ?_
          simp only [Act.put, List.setIfInBounds_toArray, List.set_cons_zero, List.set_cons_succ]
          refine wpAnyG_take (i := 8) (d := some 139) (v := .pointer (some ⟨g, 0, none⟩)) rfl rfl (by kernel_rfl) (by kernel_rfl) (by kernel_rfl) (by kernel_rfl) (by kernel_rfl) (fun _ _ _ h => h) (by rfl) (fun w' h => by go_simp) HB0.out ?_
          simp only [Act.put, List.setIfInBounds_toArray, List.set_cons_zero, List.set_cons_succ]
          refine wpAnyG_take (i := 10) (d := some 141) (v := .pointer (some ⟨g', 0, none⟩)) rfl rfl (by kernel_rfl) (by kernel_rfl) (by kernel_rfl) (by kernel_rfl) (by kernel_rfl) (fun _ _ _ h => h) (by rfl) (fun w' h => by go_simp) HB0.out ?_
          simp only [Act.put, List.setIfInBounds_toArray, List.set_cons_zero, List.set_cons_succ]
          refine wpAnyG_take (i := 11) (d := some 142) (v := .pointer (some ⟨g', 0, none⟩)) rfl rfl (by kernel_rfl) (by kernel_rfl) (by kernel_rfl) (by kernel_rfl) (by kernel_rfl) (fun _ _ _ h => h) (by rfl) (fun w' h => by go_simp) HB0.out ?_
          simp only [Act.put, List.setIfInBounds_toArray, List.set_cons_zero, List.set_cons_succ]
          refine wpAnyG_take (i := 12) (d := some 143) (v := .pointer (some ⟨g', 3, none⟩)) rfl rfl (by kernel_rfl) (by kernel_rfl) (by kernel_rfl) (by kernel_rfl) (by kernel_rfl) (fun _ _ _ h => h) (by rfl) (fun w' h => by go_simp) HB0.out ?_
          simp only [Act.put, List.setIfInBounds_toArray, List.set_cons_zero, List.set_cons_succ]
          refine wpAnyG_take (i := 13) (d := some 144) (v := .bool dn) rfl rfl (by kernel_rfl) (by kernel_rfl) (by kernel_rfl) (by kernel_rfl) (by kernel_rfl) (fun _ _ _ h => h) (by rfl) (fun w' h => by have := HD3.out w' h; go_simp) HB0.out ?_
          simp only [Act.put, List.setIfInBounds_toArray, List.set_cons_zero, List.set_cons_succ]
          refine wpAnyG_one (i := 9) (by kernel_rfl) rfl (by rfl) ?_
          refine wp_hide (fun K' hK' => ?_)
          go_simp
          refine HQ65.out.mono ?_
          rintro e w' ⟨rfl, rfl⟩
          refine hK' _ _ ⟨fun _ => HB0.out, ?_⟩
          clear hK' K'
          refine wpAnyG_take (i := 14) (d := some 145) (v := .bool false) rfl rfl (by kernel_rfl) (by kernel_rfl) (by kernel_rfl) (by kernel_rfl) (by kernel_rfl) (fun _ _ _ h => h) (by rfl) (fun w' h => by go_simp) HB0.out ?_
          simp only [Act.put, List.setIfInBounds_toArray, List.set_cons_zero, List.set_cons_succ]
          refine wpAnyG_take (i := 15) (d := some 146) (v := .bool false) rfl rfl (by kernel_rfl) (by kernel_rfl) (by kernel_rfl) (by kernel_rfl) (by kernel_rfl) (fun _ _ _ h => h) (by rfl) (fun w' h => by go_simp) HB0.out ?_
          simp only [Act.put, List.setIfInBounds_toArray, List.set_cons_zero, List.set_cons_succ]
          refine wpAnyG_take (i := 16) (d := some 147) (v := .bool false) rfl rfl (by kernel_rfl) (by kernel_rfl) (by kernel_rfl) (by kernel_rfl) (by kernel_rfl) (fun _ _ _ h => h) (by rfl) (fun w' h => by go_simp) HB0.out ?_
          simp only [Act.put, List.setIfInBounds_toArray, List.set_cons_zero, List.set_cons_succ]
          refine wpAnyG_take (i := 17) (d := some 148) (v := .pointer (some ⟨g, 0, none⟩)) rfl rfl (by kernel_rfl) (by kernel_rfl) (by kernel_rfl) (by kernel_rfl) (by kernel_rfl) (fun _ _ _ h => h) (by rfl) (fun w' h => by go_simp) HB0.out ?_
          simp only [Act.put, List.setIfInBounds_toArray, List.set_cons_zero, List.set_cons_succ]
          refine wpAnyG_take (i := 20) (d := some 151) (v := .pointer (some ⟨g', 0, none⟩)) rfl rfl (by kernel_rfl) (by kernel_rfl) (by kernel_rfl) (by kernel_rfl) (by kernel_rfl) (fun _ _ _ h => h) (by rfl) (fun w' h => by go_simp) HB0.out ?_
          simp only [Act.put, List.setIfInBounds_toArray, List.set_cons_zero, List.set_cons_succ]
          refine wpAnyG_take (i := 21) (d := some 152) (v := .pointer (some ⟨g', 0, none⟩)) rfl rfl (by kernel_rfl) (by kernel_rfl) (by kernel_rfl) (by kernel_rfl) (by kernel_rfl) (fun _ _ _ h => h) (by rfl) (fun w' h => by go_simp) HB0.out ?_
          simp only [Act.put, List.setIfInBounds_toArray, List.set_cons_zero, List.set_cons_succ]
          refine wpAnyG_take (i := 22) (d := some 153) (v := .pointer (some ⟨g', 0, none⟩)) rfl rfl (by kernel_rfl) (by kernel_rfl) (by kernel_rfl) (by kernel_rfl) (by kernel_rfl) (fun _ _ _ h => h) (by rfl) (fun w' h => by go_simp) HB0.out ?_
          simp only [Act.put, List.setIfInBounds_toArray, List.set_cons_zero, List.set_cons_succ]
          refine wpAnyG_take (i := 23) (d := some 154) (v := .slice A1 n1 c1) rfl rfl (by kernel_rfl) (by kernel_rfl) (by kernel_rfl) (by kernel_rfl) (by kernel_rfl) (fun _ _ _ h => h) (by rfl) (fun w' h => by have := HD0.out w' h; go_simp) HB0.out ?_
          simp only [Act.put, List.setIfInBounds_toArray, List.set_cons_zero, List.set_cons_succ]
          refine wpAnyG_take (i := 24) (d := some 155) (v := .string s0) rfl rfl (by kernel_rfl) (by kernel_rfl) (by kernel_rfl) (by kernel_rfl) (by kernel_rfl) (fun _ _ _ h => h) (by rfl) (fun w' h => by have := HV0.out w' h; go_simp) HB0.out ?_
          simp only [Act.put, List.setIfInBounds_toArray, List.set_cons_zero, List.set_cons_succ]
          refine wpAnyG_one (i := 18) (by kernel_rfl) rfl (by rfl) ?_
          refine wp_hide (fun K' hK' => ?_)
          go_simp
          refine (HQ60.out _ HB0.out).mono ?_
          rintro e w9 ⟨A9, c9, rfl, ho9, hb9⟩
          have hb89 := HB0.out.trans (hb9.mono HB0.out.size)
          have hcv9 := conv_str ho9.bytes c9
          rw [← HE0.out] at hcv9
          have HB9 := Lib.hid hb89
          refine hK' _ _ ⟨fun _ => HB9.out, ?_⟩
          clear hK' K' ho9 hb9 hb89
          refine wpAnyG_one (i := 19) (by kernel_rfl) rfl (by rfl) ?_
          refine wp_value (some 150) rfl (v := .string s0) (w1 := w9) (by go_simp) ⟨fun _ => HB9.out, ?_⟩
          simp only [Act.put, List.setIfInBounds_toArray, List.set_cons_zero, List.set_cons_succ]
          clear hcv9
          refine wpAnyG_take (i := 25) (d := some 156) (v := .bool false) rfl rfl (by kernel_rfl) (by kernel_rfl) (by kernel_rfl) (by kernel_rfl) (by kernel_rfl) (fun _ _ _ h => h) (by rfl) (fun w' h => by go_simp) HB9.out ?_
          simp only [Act.put, List.setIfInBounds_toArray, List.set_cons_zero, List.set_cons_succ]
          refine wpAnyG_take (i := 26) (d := some 157) (v := .bool false) rfl rfl (by kernel_rfl) (by kernel_rfl) (by kernel_rfl) (by kernel_rfl) (by kernel_rfl) (fun _ _ _ h => h) (by rfl) (fun w' h => by go_simp) HB9.out ?_
          simp only [Act.put, List.setIfInBounds_toArray, List.set_cons_zero, List.set_cons_succ]
          refine wpAnyG_take (i := 27) (d := some 158) (v := .bool false) rfl rfl (by kernel_rfl) (by kernel_rfl) (by kernel_rfl) (by kernel_rfl) (by kernel_rfl) (fun _ _ _ h => h) (by rfl) (fun w' h => by go_simp) HB9.out ?_
          simp only [Act.put, List.setIfInBounds_toArray, List.set_cons_zero, List.set_cons_succ]
          refine wpAnyG_take (i := 28) (d := some 159) (v := .pointer (some ⟨g, 0, none⟩)) rfl rfl (by kernel_rfl) (by kernel_rfl) (by kernel_rfl) (by kernel_rfl) (by kernel_rfl) (fun _ _ _ h => h) (by rfl) (fun w' h => by go_simp) HB9.out ?_
          simp only [Act.put, List.setIfInBounds_toArray, List.set_cons_zero, List.set_cons_succ]
          refine wpAnyG_take (i := 31) (d := some 162) (v := .pointer (some ⟨g', 0, none⟩)) rfl rfl (by kernel_rfl) (by kernel_rfl) (by kernel_rfl) (by kernel_rfl) (by kernel_rfl) (fun _ _ _ h => h) (by rfl) (fun w' h => by go_simp) HB9.out ?_
          simp only [Act.put, List.setIfInBounds_toArray, List.set_cons_zero, List.set_cons_succ]
          refine wpAnyG_take (i := 32) (d := some 163) (v := .pointer (some ⟨g', 0, none⟩)) rfl rfl (by kernel_rfl) (by kernel_rfl) (by kernel_rfl) (by kernel_rfl) (by kernel_rfl) (fun _ _ _ h => h) (by rfl) (fun w' h => by go_simp) HB9.out ?_
          simp only [Act.put, List.setIfInBounds_toArray, List.set_cons_zero, List.set_cons_succ]
          refine wpAnyG_take (i := 33) (d := some 164) (v := .pointer (some ⟨g', 1, none⟩)) rfl rfl (by kernel_rfl) (by kernel_rfl) (by kernel_rfl) (by kernel_rfl) (by kernel_rfl) (fun _ _ _ h => h) (by rfl) (fun w' h => by go_simp) HB9.out ?_
          simp only [Act.put, List.setIfInBounds_toArray, List.set_cons_zero, List.set_cons_succ]
          refine wpAnyG_take (i := 34) (d := some 165) (v := .slice A2 n2 c2) rfl rfl (by kernel_rfl) (by kernel_rfl) (by kernel_rfl) (by kernel_rfl) (by kernel_rfl) (fun _ _ _ h => h) (by rfl) (fun w' h => by have := HD1.out w' h; go_simp) HB9.out ?_
          simp only [Act.put, List.setIfInBounds_toArray, List.set_cons_zero, List.set_cons_succ]
          refine wpAnyG_take (i := 35) (d := some 166) (v := .string s1) rfl rfl (by kernel_rfl) (by kernel_rfl) (by kernel_rfl) (by kernel_rfl) (by kernel_rfl) (fun _ _ _ h => h) (by rfl) (fun w' h => by have := HV1.out w' h; go_simp) HB9.out ?_
          simp only [Act.put, List.setIfInBounds_toArray, List.set_cons_zero, List.set_cons_succ]
          refine wpAnyG_one (i := 29) (by kernel_rfl) rfl (by rfl) ?_
          refine wp_hide (fun K' hK' => ?_)
          go_simp
          refine (HQ61.out _ HB9.out).mono ?_
          rintro e w10 ⟨A10, c10, rfl, ho10, hb10⟩
          have hb810 := HB9.out.trans (hb10.mono HB9.out.size)
          have hcv10 := conv_str ho10.bytes c10
          rw [← HE1.out] at hcv10
          have HB10 := Lib.hid hb810
          refine hK' _ _ ⟨fun _ => HB10.out, ?_⟩
          clear hK' K' ho10 hb10 hb810
          refine wpAnyG_one (i := 30) (by kernel_rfl) rfl (by rfl) ?_
          refine wp_value (some 161) rfl (v := .string s1) (w1 := w10) (by go_simp) ⟨fun _ => HB10.out, ?_⟩
          simp only [Act.put, List.setIfInBounds_toArray, List.set_cons_zero, List.set_cons_succ]
          clear hcv10
          refine wpAnyG_take (i := 36) (d := some 167) (v := .bool false) rfl rfl (by kernel_rfl) (by kernel_rfl) (by kernel_rfl) (by kernel_rfl) (by kernel_rfl) (fun _ _ _ h => h) (by rfl) (fun w' h => by go_simp) HB10.out ?_
          simp only [Act.put, List.setIfInBounds_toArray, List.set_cons_zero, List.set_cons_succ]
          refine wpAnyG_take (i := 37) (d := some 168) (v := .bool false) rfl rfl (by kernel_rfl) (by kernel_rfl) (by kernel_rfl) (by kernel_rfl) (by kernel_rfl) (fun _ _ _ h => h) (by rfl) (fun w' h => by go_simp) HB10.out ?_
          simp only [Act.put, List.setIfInBounds_toArray, List.set_cons_zero, List.set_cons_succ]
          refine wpAnyL_done (by kernel_rfl) ?_ _
          have HP := Lib.hid (show PlayAt w g g' (opsW (l.take (k + 1))) w10 from ⟨_, _, J8, HT8.out.later HB10.out, HF8.out.1, HF8.out.2.1⟩)
          clear HT8 HF8 HD3 HD0 HD1 HV0 HV1 HQ65 HQ60 HQ61 HB0 HB9 HB10
          go_wp2
          go_roundw
          case rel => exact ⟨k + 1, by omega, by go_num, HP.out⟩
          case measure => simp [intOf]; omega
      · as_aux_lemma =>
          have hcc := HCP.out.cells
          obtain ⟨y0, y1, y2, y3⟩ := hcc
          clear hcp
          go_wp2_with fail
          clear y0 y1 y2 y3
          have hop := open_count J
          refine (jOpen (wo.alloc (.cells #[.int .i64 op.what, .int .u8 (op.kind.toNat : Int), .slice A3 k3 d3, .int .i64 op.num] 80)) (by omega) (HT.out.below HTa.out.bl hw) g C J HTa.out.a (fun q hq => by have := HTa.out.lc q hq; omega) hjo hjf).mono ?_
          rintro e w6 ⟨w5, AK, nK, cK, AB, nB, cB, rfl, hK5, hC5, hK6, hJ6⟩
          have HT6 := Lib.hid (HTa.out.first (hJ6.from_ hK5.size) (hK5.trans hK6 (fun _ _ hc => hc)))
          have HC6 := Lib.hid (hC5.keptC hK6 (fun q hq => .inl (HTa.out.a.bd q hq)))
          have HBD := Lib.hid (show ∀ q, D q → q < (wo.alloc (.cells #[.int .i64 op.what, .int .u8 (op.kind.toNat : Int), .slice A3 k3 d3, .int .i64 op.num] 80)).heap.size ∧ q < w6.heap.size from fun q hq => ⟨HTa.out.b.bd q hq, HT6.out.b.bd q hq⟩)
          clear hK5 hC5 hK6 hJ6
          generalize since (wo.alloc (.cells #[.int .i64 op.what, .int .u8 (op.kind.toNat : Int), .slice A3 k3 d3, .int .i64 op.num] 80)) C w6 = C8 at *
          go_wp2_with fail
          refine (refOpen w6 g' D J HT6.out.b hjo hjf).mono ?_
          rintro e w8a ⟨w7, AK', nK', cK', AB', nB', cB', rfl, hK7, hC7, hK8, hJ8⟩
          have HT8a := Lib.hid (HT6.out.second (hJ8.from_ hK7.size) (hK7.trans hK8 (fun _ _ hc => hc)))
          have hcA := HC6.out.keptC (hK7.trans hK8 (fun _ _ hc => hc)) (fun q hq => .inl (HBD.out q hq).1)
          have hcB := hC7.keptC hK8 (fun q hq => .inl (HBD.out q hq).2)
          have HF8 := Lib.hid (show J.open.2.fits ∧ J.open.2.size ≤ opsW (l.take (k + 1)) ∧ J.open.2.size ≤ 200000 from ⟨open_fits HFJ.out, by have := HSJ.out; have := open_size J; omega, by have := HSJ.out; have := open_size J; omega⟩)
          clear hK7 hC7 hK8 hJ8 HT6 HC6 HBD
          generalize since w6 D w8a = D8 at *
          obtain ⟨x, hx⟩ : ∃ x, x = J.open.1.2 := ⟨_, rfl⟩
          rw [← hx]
          clear hx
          have hnB : nB ≤ 9223372036854775806 := by have := hcA.count.2; rw [List.length_map] at this; omega
          have HQ := Lib.hid (same AB nB cB AB' nB' cB' _ w8a.heap.size w8a hcA.lists hcB.lists hnB)
          have hv1 := conv_str hcA.kinds.bytes cK
          have hv2 := conv_str hcB.kinds.bytes cK'
          clear hcA hcB hop hnB
          generalize J.open.2 = J8 at *
          generalize str (J.open.1.1.map (·.1)) = s0 at *
          go_wp2_with fail
          refine HQ.out.mono ?_
          rintro e w' ⟨rfl, m, rfl⟩
          have HT8 := Lib.hid (HT8a.out.later (below_draws (Below.refl _ w8a) m))
          clear HT8a HQ hv1 hv2
          generalize w8a.drewN m = w8 at *
          obtain ⟨A1, n1, c1, A2, n2, c2, hb8⟩ := HT8.out.b
          have hlk := hb8.kept.len
          have hlr := hb8.rest.len
          have hsz8 : n1 + n2 ≤ 200000 := by have := HF8.out.2.2; unfold JV.size at this; omega
          have HD3 := Lib.hid (show ∀ W, Below w8.heap.size w8 W → W.cell? ⟨g', 3, none⟩ = some (.bool J8.down) from fun W hb => (hb.cell (p := ⟨g', 3, none⟩) hb8.lt).trans hb8.cell3)
          have HD0 := Lib.hid (show ∀ W, Below w8.heap.size w8 W → W.cell? ⟨g', 0, none⟩ = some (.slice A1 n1 c1) from fun W hb => (hb.cell (p := ⟨g', 0, none⟩) hb8.lt).trans hb8.cell0)
          have HD1 := Lib.hid (show ∀ W, Below w8.heap.size w8 W → W.cell? ⟨g', 1, none⟩ = some (.slice A2 n2 c2) from fun W hb => (hb.cell (p := ⟨g', 1, none⟩) hb8.lt).trans hb8.cell1)
          have HV0 := Lib.hid (show ∀ W, Below w8.heap.size w8 W → (convert 23 9 (.slice A1 n1 c1)).run Tryd.prog W = .ok (.string (str J8.kept)) W from fun W hb => conv_str (hb8.kept.bytes.below hb) c1)
          have HV1 := Lib.hid (show ∀ W, Below w8.heap.size w8 W → (convert 23 9 (.slice A2 n2 c2)).run Tryd.prog W = .ok (.string (str J8.rest)) W from fun W hb => conv_str (hb8.rest.bytes.below hb) c2)
          have HQ65 := Lib.hid (jDown w8.drew g C8 J8 (HT8.out.a.later (Below.refl _ w8).drew))
          have HQ60 := Lib.hid (show ∀ W, Below w8.heap.size w8 W → Calls Tryd.prog 60 #[.pointer (some ⟨g, 0, none⟩)] W (Copied W n1 J8.kept) from fun W hb => by have := jSynced W g C8 J8 (HT8.out.a.later hb) (by omega); rwa [hlk] at this)
          have HQ61 := Lib.hid (show ∀ W, Below w8.heap.size w8 W → Calls Tryd.prog 61 #[.pointer (some ⟨g, 0, none⟩)] W (Copied W n2 J8.rest) from fun W hb => by have := jTail W g C8 J8 (HT8.out.a.later hb) (by omega); rwa [hlr] at this)
          have HB0 : Hid (Below w8.heap.size w8 w8.drew) := Lib.hid (Below.refl _ w8).drew
          obtain ⟨s0, hs0⟩ : ∃ s, s = str J8.kept := ⟨_, rfl⟩
          obtain ⟨s1, hs1⟩ : ∃ s, s = str J8.rest := ⟨_, rfl⟩
          rw [← hs0] at HV0
          rw [← hs1] at HV1
          have HE0 := Lib.hid hs0
          have HE1 := Lib.hid hs1
          clear hs0 hs1
          generalize J8.down = dn at *
          clear hb8 hlk hlr
          go_wp2_with fail
          refine region_L (fun w' => Below w8.heap.size w8 w') [] (by kernel_rfl) ?_
          simp only [List.size_toArray, List.length_cons, List.length_nil, Nat.reduceAdd, Array.replicate_succ, Array.replicate_zero]
          refine wpAnyG_take (i := 0) (d := some 131) (v := .bool true) rfl rfl (by kernel_rfl) (by kernel_rfl) (by kernel_rfl) (by kernel_rfl) (by kernel_rfl) (fun _ _ _ h => h) (by rfl) (fun w' h => by go_simp) HB0.out ?_
          simp only [Act.put, List.setIfInBounds_toArray, List.set_cons_zero, List.set_cons_succ]
          refine wpAnyG_take (i := 1) (d := some 132) (v := .bool false) rfl rfl (by kernel_rfl) (by kernel_rfl) (by kernel_rfl) (by kernel_rfl) (by kernel_rfl) (fun _ _ _ h => h) (by rfl) (fun w' h => by go_simp) HB0.out ?_
          simp only [Act.put, List.setIfInBounds_toArray, List.set_cons_zero, List.set_cons_succ]
          refine wpAnyG_take (i := 2) (d := some 133) (v := .bool false) rfl rfl (by kernel_rfl) (by kernel_rfl) (by kernel_rfl) (by kernel_rfl) (by kernel_rfl) (fun _ _ _ h => h) (by rfl) (fun w' h => by go_simp) HB0.out ?_
          simp only [Act.put, List.setIfInBounds_toArray, List.set_cons_zero, List.set_cons_succ]
          refine wpAnyG_take (i := 3) (d := some 134) (v := .int .i64 x) rfl rfl (by kernel_rfl) (by kernel_rfl) (by kernel_rfl) (by kernel_rfl) (by kernel_rfl) (fun _ _ _ h => h) (by rfl) (fun w' h => by go_simp) HB0.out ?_
          simp only [Act.put, List.setIfInBounds_toArray, List.set_cons_zero, List.set_cons_succ]
          refine wpAnyG_take (i := 4) (d := some 135) (v := .int .i64 x) rfl rfl (by kernel_rfl) (by kernel_rfl) (by kernel_rfl) (by kernel_rfl) (by kernel_rfl) (fun _ _ _ h => h) (by rfl) (fun w' h => by go_simp) HB0.out ?_
          simp only [Act.put, List.setIfInBounds_toArray, List.set_cons_zero, List.set_cons_succ]
          refine wpAnyG_take (i := 5) (d := some 136) (v := .bool false) rfl rfl (by kernel_rfl) (by kernel_rfl) (by kernel_rfl) (by kernel_rfl) (by kernel_rfl) (fun _ _ _ h => h) (by rfl) (fun w' h => by go_simp) HB0.out ?_
          simp only [Act.put, List.setIfInBounds_toArray, List.set_cons_zero, List.set_cons_succ]
          refine wpAnyG_take (i := 6) (d := some 137) (v := .bool false) rfl rfl (by kernel_rfl) (by kernel_rfl) (by kernel_rfl) (by kernel_rfl) (by kernel_rfl) (fun _ _ _ h => h) (by rfl) (fun w' h => by go_simp) HB0.out ?_
          simp only [Act.put, List.setIfInBounds_toArray, List.set_cons_zero, List.set_cons_succ]
          refine wpAnyG_take (i := 7) (d := some 138) (v := .bool false) rfl rfl (by kernel_rfl) (by kernel_rfl) (by kernel_rfl) (by kernel_rfl) (by kernel_rfl) (fun _ _ _ h => h) (by rfl) (fun w' h => by go_simp) HB0.out ?_
          simp only [Act.put, List.setIfInBounds_toArray, List.set_cons_zero, List.set_cons_succ]
          refine wpAnyG_take (i := 8) (d := some 139) (v := .pointer (some ⟨g, 0, none⟩)) rfl rfl (by kernel_rfl) (by kernel_rfl) (by kernel_rfl) (by kernel_rfl) (by kernel_rfl) (fun _ _ _ h => h) (by rfl) (fun w' h => by go_simp) HB0.out ?_
          simp only [Act.put, List.setIfInBounds_toArray, List.set_cons_zero, List.set_cons_succ]
          refine wpAnyG_take (i := 10) (d := some 141) (v := .pointer (some ⟨g', 0, none⟩)) rfl rfl (by kernel_rfl) (by kernel_rfl) (by kernel_rfl) (by kernel_rfl) (by kernel_rfl) (fun _ _ _ h => h) (by rfl) (fun w' h => by go_simp) HB0.out ?_
          simp only [Act.put, List.setIfInBounds_toArray, List.set_cons_zero, List.set_cons_succ]
          refine wpAnyG_take (i := 11) (d := some 142) (v := .pointer (some ⟨g', 0, none⟩)) rfl rfl (by kernel_rfl) (by kernel_rfl) (by kernel_rfl) (by kernel_rfl) (by kernel_rfl) (fun _ _ _ h => h) (by rfl) (fun w' h => by go_simp) HB0.out ?_
          simp only [Act.put, List.setIfInBounds_toArray, List.set_cons_zero, List.set_cons_succ]
          refine wpAnyG_take (i := 12) (d := some 143) (v := .pointer (some ⟨g', 3, none⟩)) rfl rfl (by kernel_rfl) (by kernel_rfl) (by kernel_rfl) (by kernel_rfl) (by kernel_rfl) (fun _ _ _ h => h) (by rfl) (fun w' h => by go_simp) HB0.out ?_
          simp only [Act.put, List.setIfInBounds_toArray, List.set_cons_zero, List.set_cons_succ]
          refine wpAnyG_take (i := 13) (d := some 144) (v := .bool dn) rfl rfl (by kernel_rfl) (by kernel_rfl) (by kernel_rfl) (by kernel_rfl) (by kernel_rfl) (fun _ _ _ h => h) (by rfl) (fun w' h => by have := HD3.out w' h; go_simp) HB0.out ?_
          simp only [Act.put, List.setIfInBounds_toArray, List.set_cons_zero, List.set_cons_succ]
          refine wpAnyG_one (i := 9) (by kernel_rfl) rfl (by rfl) ?_
          refine wp_hide (fun K' hK' => ?_)
          go_simp
          refine HQ65.out.mono ?_
          rintro e w' ⟨rfl, rfl⟩
          refine hK' _ _ ⟨fun _ => HB0.out, ?_⟩
          clear hK' K'
          refine wpAnyG_take (i := 14) (d := some 145) (v := .bool false) rfl rfl (by kernel_rfl) (by kernel_rfl) (by kernel_rfl) (by kernel_rfl) (by kernel_rfl) (fun _ _ _ h => h) (by rfl) (fun w' h => by go_simp) HB0.out ?_
          simp only [Act.put, List.setIfInBounds_toArray, List.set_cons_zero, List.set_cons_succ]
          refine wpAnyG_take (i := 15) (d := some 146) (v := .bool false) rfl rfl (by kernel_rfl) (by kernel_rfl) (by kernel_rfl) (by kernel_rfl) (by kernel_rfl) (fun _ _ _ h => h) (by rfl) (fun w' h => by go_simp) HB0.out ?_
          simp only [Act.put, List.setIfInBounds_toArray, List.set_cons_zero, List.set_cons_succ]
          refine wpAnyG_take (i := 16) (d := some 147) (v := .bool false) rfl rfl (by kernel_rfl) (by kernel_rfl) (by kernel_rfl) (by kernel_rfl) (by kernel_rfl) (fun _ _ _ h => h) (by rfl) (fun w' h => by go_simp) HB0.out ?_
          simp only [Act.put, List.setIfInBounds_toArray, List.set_cons_zero, List.set_cons_succ]
          refine wpAnyG_take (i := 17) (d := some 148) (v := .pointer (some ⟨g, 0, none⟩)) rfl rfl (by kernel_rfl) (by kernel_rfl) (by kernel_rfl) (by kernel_rfl) (by kernel_rfl) (fun _ _ _ h => h) (by rfl) (fun w' h => by go_simp) HB0.out ?_
          simp only [Act.put, List.setIfInBounds_toArray, List.set_cons_zero, List.set_cons_succ]
          refine wpAnyG_take (i := 20) (d := some 151) (v := .pointer (some ⟨g', 0, none⟩)) rfl rfl (by kernel_rfl) (by kernel_rfl) (by kernel_rfl) (by kernel_rfl) (by kernel_rfl) (fun _ _ _ h => h) (by rfl) (fun w' h => by go_simp) HB0.out ?_
          simp only [Act.put, List.setIfInBounds_toArray, List.set_cons_zero, List.set_cons_succ]
          refine wpAnyG_take (i := 21) (d := some 152) (v := .pointer (some ⟨g', 0, none⟩)) rfl rfl (by kernel_rfl) (by kernel_rfl) (by kernel_rfl) (by kernel_rfl) (by kernel_rfl) (fun _ _ _ h => h) (by rfl) (fun w' h => by go_simp) HB0.out ?_
          simp only [Act.put, List.setIfInBounds_toArray, List.set_cons_zero, List.set_cons_succ]
          refine wpAnyG_take (i := 22) (d := some 153) (v := .pointer (some ⟨g', 0, none⟩)) rfl rfl (by kernel_rfl) (by kernel_rfl) (by kernel_rfl) (by kernel_rfl) (by kernel_rfl) (fun _ _ _ h => h) (by rfl) (fun w' h => by go_simp) HB0.out ?_
          simp only [Act.put, List.setIfInBounds_toArray, List.set_cons_zero, List.set_cons_succ]
          refine wpAnyG_take (i := 23) (d := some 154) (v := .slice A1 n1 c1) rfl rfl (by kernel_rfl) (by kernel_rfl) (by kernel_rfl) (by kernel_rfl) (by kernel_rfl) (fun _ _ _ h => h) (by rfl) (fun w' h => by have := HD0.out w' h; go_simp) HB0.out ?_
          simp only [Act.put, List.setIfInBounds_toArray, List.set_cons_zero, List.set_cons_succ]
          refine wpAnyG_take (i := 24) (d := some 155) (v := .string s0) rfl rfl (by kernel_rfl) (by kernel_rfl) (by kernel_rfl) (by kernel_rfl) (by kernel_rfl) (fun _ _ _ h => h) (by rfl) (fun w' h => by have := HV0.out w' h; go_simp) HB0.out ?_
          simp only [Act.put, List.setIfInBounds_toArray, List.set_cons_zero, List.set_cons_succ]
          refine wpAnyG_one (i := 18) (by kernel_rfl) rfl (by rfl) ?_
          refine wp_hide (fun K' hK' => ?_)
          go_simp
          refine (HQ60.out _ HB0.out).mono ?_
          rintro e w9 ⟨A9, c9, rfl, ho9, hb9⟩
          have hb89 := HB0.out.trans (hb9.mono HB0.out.size)
          have hcv9 := conv_str ho9.bytes c9
          rw [← HE0.out] at hcv9
          have HB9 := Lib.hid hb89
          refine hK' _ _ ⟨fun _ => HB9.out, ?_⟩
          clear hK' K' ho9 hb9 hb89
          refine wpAnyG_one (i := 19) (by kernel_rfl) rfl (by rfl) ?_
          refine wp_value (some 150) rfl (v := .string s0) (w1 := w9) (by go_simp) ⟨fun _ => HB9.out, ?_⟩
          simp only [Act.put, List.setIfInBounds_toArray, List.set_cons_zero, List.set_cons_succ]
          clear hcv9
          refine wpAnyG_take (i := 25) (d := some 156) (v := .bool false) rfl rfl (by kernel_rfl) (by kernel_rfl) (by kernel_rfl) (by kernel_rfl) (by kernel_rfl) (fun _ _ _ h => h) (by rfl) (fun w' h => by go_simp) HB9.out ?_
          simp only [Act.put, List.setIfInBounds_toArray, List.set_cons_zero, List.set_cons_succ]
          refine wpAnyG_take (i := 26) (d := some 157) (v := .bool false) rfl rfl (by kernel_rfl) (by kernel_rfl) (by kernel_rfl) (by kernel_rfl) (by kernel_rfl) (fun _ _ _ h => h) (by rfl) (fun w' h => by go_simp) HB9.out ?_
          simp only [Act.put, List.setIfInBounds_toArray, List.set_cons_zero, List.set_cons_succ]
          refine wpAnyG_take (i := 27) (d := some 158) (v := .bool false) rfl rfl (by kernel_rfl) (by kernel_rfl) (by kernel_rfl) (by kernel_rfl) (by kernel_rfl) (fun _ _ _ h => h) (by rfl) (fun w' h => by go_simp) HB9.out ?_
          simp only [Act.put, List.setIfInBounds_toArray, List.set_cons_zero, List.set_cons_succ]
          refine wpAnyG_take (i := 28) (d := some 159) (v := .pointer (some ⟨g, 0, none⟩)) rfl rfl (by kernel_rfl) (by kernel_rfl) (by kernel_rfl) (by kernel_rfl) (by kernel_rfl) (fun _ _ _ h => h) (by rfl) (fun w' h => by go_simp) HB9.out ?_
          simp only [Act.put, List.setIfInBounds_toArray, List.set_cons_zero, List.set_cons_succ]
          refine wpAnyG_take (i := 31) (d := some 162) (v := .pointer (some ⟨g', 0, none⟩)) rfl rfl (by kernel_rfl) (by kernel_rfl) (by kernel_rfl) (by kernel_rfl) (by kernel_rfl) (fun _ _ _ h => h) (by rfl) (fun w' h => by go_simp) HB9.out ?_
          simp only [Act.put, List.setIfInBounds_toArray, List.set_cons_zero, List.set_cons_succ]
          refine wpAnyG_take (i := 32) (d := some 163) (v := .pointer (some ⟨g', 0, none⟩)) rfl rfl (by kernel_rfl) (by kernel_rfl) (by kernel_rfl) (by kernel_rfl) (by kernel_rfl) (fun _ _ _ h => h) (by rfl) (fun w' h => by go_simp) HB9.out ?_
          simp only [Act.put, List.setIfInBounds_toArray, List.set_cons_zero, List.set_cons_succ]
          refine wpAnyG_take (i := 33) (d := some 164) (v := .pointer (some ⟨g', 1, none⟩)) rfl rfl (by kernel_rfl) (by kernel_rfl) (by kernel_rfl) (by kernel_rfl) (by kernel_rfl) (fun _ _ _ h => h) (by rfl) (fun w' h => by go_simp) HB9.out ?_
          simp only [Act.put, List.setIfInBounds_toArray, List.set_cons_zero, List.set_cons_succ]
          refine wpAnyG_take (i := 34) (d := some 165) (v := .slice A2 n2 c2) rfl rfl (by kernel_rfl) (by kernel_rfl) (by kernel_rfl) (by kernel_rfl) (by kernel_rfl) (fun _ _ _ h => h) (by rfl) (fun w' h => by have := HD1.out w' h; go_simp) HB9.out ?_
          simp only [Act.put, List.setIfInBounds_toArray, List.set_cons_zero, List.set_cons_succ]
          refine wpAnyG_take (i := 35) (d := some 166) (v := .string s1) rfl rfl (by kernel_rfl) (by kernel_rfl) (by kernel_rfl) (by kernel_rfl) (by kernel_rfl) (fun _ _ _ h => h) (by rfl) (fun w' h => by have := HV1.out w' h; go_simp) HB9.out ?_
          simp only [Act.put, List.setIfInBounds_toArray, List.set_cons_zero, List.set_cons_succ]
          refine wpAnyG_one (i := 29) (by kernel_rfl) rfl (by rfl) ?_
          refine wp_hide (fun K' hK' => ?_)
          go_simp
          refine (HQ61.out _ HB9.out).mono ?_
          rintro e w10 ⟨A10, c10, rfl, ho10, hb10⟩
          have hb810 := HB9.out.trans (hb10.mono HB9.out.size)
          have hcv10 := conv_str ho10.bytes c10
          rw [← HE1.out] at hcv10
          have HB10 := Lib.hid hb810
          refine hK' _ _ ⟨fun _ => HB10.out, ?_⟩
          clear hK' K' ho10 hb10 hb810
          refine wpAnyG_one (i := 30) (by kernel_rfl) rfl (by rfl) ?_
          refine wp_value (some 161) rfl (v := .string s1) (w1 := w10) (by go_simp) ⟨fun _ => HB10.out, ?_⟩
          simp only [Act.put, List.setIfInBounds_toArray, List.set_cons_zero, List.set_cons_succ]
          clear hcv10
          refine wpAnyG_take (i := 36) (d := some 167) (v := .bool false) rfl rfl (by kernel_rfl) (by kernel_rfl) (by kernel_rfl) (by kernel_rfl) (by kernel_rfl) (fun _ _ _ h => h) (by rfl) (fun w' h => by go_simp) HB10.out ?_
          simp only [Act.put, List.setIfInBounds_toArray, List.set_cons_zero, List.set_cons_succ]
          refine wpAnyG_take (i := 37) (d := some 168) (v := .bool false) rfl rfl (by kernel_rfl) (by kernel_rfl) (by kernel_rfl) (by kernel_rfl) (by kernel_rfl) (fun _ _ _ h => h) (by rfl) (fun w' h => by go_simp) HB10.out ?_
          simp only [Act.put, List.setIfInBounds_toArray, List.set_cons_zero, List.set_cons_succ]
          refine wpAnyL_done (by kernel_rfl) ?_ _
          have HP := Lib.hid (show PlayAt w g g' (opsW (l.take (k + 1))) w10 from ⟨_, _, J8, HT8.out.later HB10.out, HF8.out.1, HF8.out.2.1⟩)
          clear HT8 HF8 HD3 HD0 HD1 HV0 HV1 HQ65 HQ60 HQ61 HB0 HB9 HB10
          go_wp2
          go_roundw
          case rel => exact ⟨k + 1, by omega, by go_num, HP.out⟩
          case measure => simp [intOf]; omega
    · obtain rfl : k = n := by omega
      have HBE := Lib.hid hT.bl
      clear hT hF hS
      go_wp2
      go_ret
      exact ⟨by simp, HBE.out⟩
end Go.Proofs.YtddcfgbembjbhaaDoor
