/- The law JournalFuse, walked. -/
import Derived.Test.YtddcfgbembjbhaaDoorGreat
import Derived.Test.YtddcfgbembjbhaaDoorRecMath
import Derived.Deep.RegionHeld3
namespace Go.Proofs.YtddcfgbembjbhaaDoor
open Go.RowKit
set_option linter.unusedVariables false
set_option linter.unusedSimpArgs false
/-- d effects of n were done. -/
def FuseInv (n d : Nat) (J : JV) : Prop := d ≤ n ∧ J.fits ∧ ((J.down = false ∧ J.fuse = (n : Int) - (d : Int)) ∨ (J.down = true ∧ d = n))
/-- How a call ends: too many; done; not done. -/
def FuseOut (n d : Nat) (J : JV) (r : Int × JV) : Prop :=
  (r.1 = 2 ∧ FuseInv n d r.2) ∨ (r.1 = 0 ∧ d < n ∧ FuseInv n (d + 1) r.2 ∧ r.2.down = false) ∨ (r.1 = 61 ∧ d = n ∧ FuseInv n d r.2 ∧ r.2.down = true)
theorem fuse_eff {n d : Nat} {J : JV} (h : FuseInv n d J) : (J.eff.1 = 0 ∧ d < n ∧ FuseInv n (d + 1) J.eff.2 ∧ J.eff.2.down = false) ∨ (J.eff.1 = 61 ∧ d = n ∧ FuseInv n d J.eff.2 ∧ J.eff.2.down = true) := by
  have hf := eff_fits h.2.1
  obtain ⟨h1, h2, h3 | h3⟩ := h
  · by_cases h0 : J.fuse = 0
    · rw [eff_zero h3.1 h0] at hf ⊢
      have hd : d = n := by omega
      exact .inr ⟨rfl, hd, ⟨h1, hf, .inr ⟨rfl, hd⟩⟩, rfl⟩
    · have hp : 0 < J.fuse := by omega
      rw [eff_pos h3.1 hp] at hf ⊢
      have hd : d < n := by omega
      exact .inl ⟨rfl, hd, ⟨hd, hf, .inl ⟨h3.1, by show J.fuse - 1 = _; omega⟩⟩, h3.1⟩
  · rw [eff_down h3.1] at hf ⊢
    exact .inr ⟨rfl, h3.2, ⟨h1, hf, .inr h3⟩, h3.1⟩
theorem fuseInv_with {n d : Nat} {J : JV} (h : FuseInv n d J) (a b : List UInt8) : FuseInv n d ⟨a, b, J.fuse, J.down⟩ := h
theorem fuse_out_eff {n d : Nat} {J : JV} (h : FuseInv n d J) : FuseOut n d J J.eff := (fuse_eff h).elim (fun h => .inr (.inl h)) (fun h => .inr (.inr h))
theorem fuse_out_sync {n d : Nat} {J : JV} (h : FuseInv n d J) : FuseOut n d J J.sync := by
  unfold JV.sync
  rcases fuse_eff h with ⟨h1, h2, h3, h4⟩ | ⟨h1, h2, h3, h4⟩
  · rw [if_pos h1]
    exact .inr (.inl ⟨rfl, h2, fuseInv_with h3 _ _, h4⟩)
  · rw [if_neg (by rw [h1]; decide)]
    exact .inr (.inr ⟨h1, h2, h3, h4⟩)
theorem fuse_out_append {n d : Nat} {J : JV} (h : FuseInv n d J) (k : UInt8) (b : List UInt8) : FuseOut n d J (J.append k b) := by
  unfold JV.append
  split
  · exact .inl ⟨rfl, h⟩
  · rcases fuse_eff h with ⟨h1, h2, h3, h4⟩ | ⟨h1, h2, h3, h4⟩
    · rw [if_pos h1]
      exact .inr (.inl ⟨rfl, h2, fuseInv_with h3 _ _, h4⟩)
    · rw [if_neg (by rw [h1]; decide)]
      exact .inr (.inr ⟨h1, h2, h3, h4⟩)
theorem append_opW (J : JV) (o : OpV) : (J.append o.kind o.body).2.size ≤ J.size + opW o := by
  have h := append_size o.kind o.body J
  unfold opW
  omega
/-- What holds ahead of each round. -/
def FuseAt (w : World) (g n d s : Nat) (wr : World) : Prop := ∃ C J, JIn wr 99 g C J ∧ (∀ q, C q → w.heap.size ≤ q) ∧ Below w.heap.size w wr ∧ FuseInv n d J ∧ J.size ≤ s
set_option maxRecDepth 100000 in
set_option maxHeartbeats 4000000 in
theorem walkJournalFuse (w : World) (hw : 0 < w.heap.size) (ht : Four w) (m : Int) (hm : 0 ≤ m ∧ m ≤ 255) (A : Option Addr) (n c : Nat) (l : List OpV) (hr : OpsAt w w.heap.size A n l) (hc : n ≤ c) (hn : n ≤ 9223372036854775806) :
    Calls Tryd.prog 26 #[.int .u8 m, .slice A n c] w fun e w' => e = .returned (.bool true) ∧ Below w.heap.size w w' := by
  obtain ⟨m, rfl⟩ := Int.eq_ofNat_of_zero_le hm.1
  have HT := Lib.hid ht
  have HR := Lib.hid hr
  have HL := Lib.hid hr.1
  have hwm : IntKind.i64.wrap (m : Int) = (m : Int) := IntWalk.i64_in _ (by omega)
  clear ht hr
  go_enter Tryd.func26, Tryd.ntmps26
  go_wp2_with fail
  refine (head06 w hw HT.out).mono ?_
  rintro e w0 ⟨rfl, b0⟩
  have HB0 := Lib.hid b0
  have hs0 := b0.size
  clear b0
  go_wp2_with fail
  refine (jNew w0).mono ?_
  rintro e w1 ⟨rfl, hJ1, b1⟩
  have HB1 := Lib.hid (HB0.out.trans (b1.mono hs0))
  have HJ1 := Lib.hid hJ1
  have hs1 := HB1.out.size
  have hC1 : ∀ q, q = w0.heap.size → w.heap.size ≤ q := fun q e => by omega
  clear hJ1 b1
  go_wp2_with fail
  refine (great62 A n c l w.heap.size w1 (OpsAt.below HR.out HB1.out) hn).mono ?_
  rintro e w1' ⟨rfl, rfl⟩
  by_cases hG : 200000 ≤ opsW l
  · have hGd : decide (200000 ≤ opsW l) = true := by simpa using hG
    rw [hGd]
    clear hG hGd
    go_wp2
    go_ret
    exact ⟨by simp, HB1.out⟩
  have hGd : decide (200000 ≤ opsW l) = false := by simpa using hG
  rw [hGd]
  have HG := Lib.hid hG
  clear hG hGd
  go_wp2_with fail
  refine (jFuse w1 w0.heap.size _ JV.new HJ1.out (m : Int)).mono ?_
  rintro e w2 ⟨⟨v2, rfl⟩, hJ2, hK2⟩
  have HF2 := Lib.hid (show FuseAt w w0.heap.size m 0 0 w2 from ⟨_, _, hJ2, since_ge (w' := w2) hC1 hs1, HB1.out.trans (hK2.below (B := w.heap.size) hs1 (fun k _ hc => hC1 k hc)),
    ⟨Nat.zero_le _, fuse_fits _ (by omega), .inl ⟨rfl, by show max (m : Int) (-1) = _; omega⟩⟩, Nat.le_refl _⟩)
  clear hJ2 hK2 HJ1 HB1 HB0 hC1 hs1 hs0
  generalize w0.heap.size = g at *
  go_wp2_with fail
  go_loopw [7, 8, 9] (fun x7 x8 x9 wr => ∃ (d k : Nat), k ≤ n ∧ d ≤ m ∧ x7 = .int .i64 (d : Int) ∧ x8 = .int .i64 (k : Int) ∧ FuseAt w g m d (opsW (l.take k)) wr) (fun _ x8 _ _ => n - (intOf x8).toNat)
  case atStart => exact ⟨0, 0, Nat.zero_le _, Nat.zero_le _, rfl, rfl, by rw [List.take_zero, opsW_nil]; exact HF2.out⟩
  case round =>
    obtain ⟨d, k, hk, hd, rfl, rfl, hF⟩ := hrel
    obtain ⟨wo, rfl⟩ : ∃ wo, wo = wr := ⟨_, rfl⟩
    obtain ⟨C, J, hJ, hC, hb, hI, hsz⟩ := hF
    have hbs := hb.size
    by_cases hkn : k < n
    · obtain ⟨b, o, op, rfl, hbo, hop, A3, k3, d3, f0, f1, f2, f3, hby, hk3, hkd, _⟩ := OpsAt.at_ HR.out hb hkn
      have hsuc := opsW_take_succ (l := l) (k := k) (by rw [HL.out]; exact hkn)
      have hge : l[k]'(by rw [HL.out]; exact hkn) = op := (List.getElem?_eq_some_iff.1 hop).2
      rw [hge] at hsuc
      have hjs : J.size < 200000 := by have := opsW_take_le l k; have := HG.out; omega
      have hjs' : J.size = J.kept.length + J.rest.length := rfl
      have HSA := Lib.hid (show (J.append op.kind op.body).2.size ≤ opsW (l.take (k + 1)) by have := append_opW J op; omega)
      have HSS := Lib.hid (show J.sync.2.size ≤ opsW (l.take (k + 1)) by rw [sync_size]; omega)
      have HSE := Lib.hid (show J.eff.2.size ≤ opsW (l.take (k + 1)) by rw [eff_size]; omega)
      have HJ := Lib.hid hJ
      have HC := Lib.hid hC
      have HB := Lib.hid hb
      have HY := Lib.hid hby
      have HI := Lib.hid hI
      have hjr : J.rest.length ≤ 140737488300000 := by omega
      have hjk : J.kept.length + J.rest.length ≤ 140737488355328 := by omega
      have hjf := hI.2.1.bounds
      clear hJ hC hb hop hby hI hge hsuc hjs hjs' hsz
      have hcase : bits .and .i64 op.what 3 = 0 ∨ bits .and .i64 op.what 3 = 1 ∨ bits .and .i64 op.what 3 = 2 ∨ bits .and .i64 op.what 3 = 3 := what4 op.what
      rcases hcase with hq | hq | hq | hq
      · have fk1 : wo.drew.cell? ⟨b, o + k * 4 + 1, none⟩ = some (.int .u8 (op.kind.toNat : Int)) := f1
        have fk2 : wo.drew.cell? ⟨b, o + k * 4 + 2, none⟩ = some (.slice A3 k3 d3) := f2
        have QA := Lib.hid (jAppend wo.drew (show 0 < wo.heap.size by omega) (HT.out.below HB.out.drew hw) g C _ (HJ.out.later (Below.refl _ wo).drew) hjf op.kind A3 k3 d3 w.heap.size op.body (HY.out.draws 1) hbs hk3 hjr)
        go_wp2_with fail
        go_region_held3 (fun w' => w'.cell? ⟨b, o + k * 4 + 1, none⟩ = some (.int .u8 (op.kind.toNat : Int)) ∧ w'.cell? ⟨b, o + k * 4 + 2, none⟩ = some (.slice A3 k3 d3))
          ((first | assumption | trivial))
          ((go_at_call 56; refine QA.out.mono ?_; clear QA; rintro e w6 ⟨rfl, hJ6, hK6⟩; have fk3 : w6.cell? ⟨b, o + k * 4 + 1, none⟩ = some (.int .u8 (op.kind.toNat : Int)) := ((hK6.below (B := w.heap.size) hbs (fun q _ hq => HC.out q hq)).cell (p := ⟨b, o + k * 4 + 1, none⟩) hbo).trans fk1; have fk4 : w6.cell? ⟨b, o + k * 4 + 2, none⟩ = some (.slice A3 k3 d3) := ((hK6.below (B := w.heap.size) hbs (fun q _ hq => HC.out q hq)).cell (p := ⟨b, o + k * 4 + 2, none⟩) hbo).trans fk2))
        have HD6 := Lib.hid (show ∀ d', FuseInv m d' (J.append op.kind op.body).2 → FuseAt w g m d' (opsW (l.take (k + 1))) w6 from fun d' hi => ⟨_, _, hJ6, since_ge (w := wo.drew) (w' := w6) HC.out hbs, HB.out.drew.trans (hK6.below (B := w.heap.size) hbs (fun k _ hc => HC.out k hc)), hi, HSA.out⟩)
        have HO := Lib.hid (fuse_out_append HI.out op.kind op.body)
        have HJ6 := Lib.hid hJ6
        clear hJ6 hK6 fk1 fk2 fk3 fk4
        generalize J.append op.kind op.body = r at *
        obtain ⟨r1, r2⟩ := r
        rcases HO.out with ⟨h1, h3⟩ | ⟨h1, h2, h3, h4⟩ | ⟨h1, h2, h3, h4⟩
        · have HA := Lib.hid (HD6.out _ h3)
          simp only at h1
          subst h1
          clear h3 HO
          go_wp2
          go_roundw
          case rel => exact ⟨d, k + 1, by omega, hd, rfl, by go_num, HA.out⟩
          case measure => simp [intOf]; omega
        · have HA := Lib.hid (HD6.out _ h3)
          simp only at h1 h4
          subst h1
          have QD := jDown w6 g _ _ HJ6.out
          simp only at QD
          rw [h4] at QD
          have HQ := Lib.hid QD
          have g1 : decide ((d : Int) + 1 > (m : Int)) = false := by simp; omega
          have g2 : decide ((m : Int) < (d : Int) + 1) = false := by simp; omega
          by_cases hdm : d + 1 = m
          · have g3 : ((d : Int) + 1 == (m : Int)) = true := by simp; omega
            have HDM := Lib.hid hdm
            clear h3 h4 QD HO hdm
            go_wp2_with fail
            refine HQ.out.mono ?_
            rintro e w7 ⟨rfl, rfl⟩
            go_wp2
            go_roundw
            case rel => exact ⟨d + 1, k + 1, by omega, by omega, by go_num, by go_num, HA.out⟩
            case measure => simp [intOf]; omega
          · have g3 : ((d : Int) + 1 == (m : Int)) = false := by simp; omega
            clear h3 h4 QD HO
            go_wp2
            go_roundw
            case rel => exact ⟨d + 1, k + 1, by omega, by omega, by go_num, by go_num, HA.out⟩
            case measure => simp [intOf]; omega
        · have HA := Lib.hid (HD6.out _ h3)
          simp only at h1 h4
          subst h1 h2
          have QD := jDown w6 g _ _ HJ6.out
          simp only at QD
          rw [h4] at QD
          have HQ := Lib.hid QD
          clear h3 h4 QD HO
          go_wp2_with fail
          refine HQ.out.mono ?_
          rintro e w7 ⟨rfl, rfl⟩
          go_wp2
          go_roundw
          case rel => exact ⟨d, k + 1, by omega, by omega, rfl, by go_num, HA.out⟩
          case measure => simp [intOf]; omega
      · have fk1 : wo.drew.cell? ⟨b, o + k * 4 + 1, none⟩ = some (.int .u8 (op.kind.toNat : Int)) := f1
        have fk2 : wo.drew.cell? ⟨b, o + k * 4 + 2, none⟩ = some (.slice A3 k3 d3) := f2
        have QA := Lib.hid (jAppend wo.drew (show 0 < wo.heap.size by omega) (HT.out.below HB.out.drew hw) g C _ (HJ.out.later (Below.refl _ wo).drew) hjf op.kind A3 k3 d3 w.heap.size op.body (HY.out.draws 1) hbs hk3 hjr)
        go_wp2_with fail
        go_region_held3 (fun w' => w'.cell? ⟨b, o + k * 4 + 1, none⟩ = some (.int .u8 (op.kind.toNat : Int)) ∧ w'.cell? ⟨b, o + k * 4 + 2, none⟩ = some (.slice A3 k3 d3))
          ((first | assumption | trivial))
          ((go_at_call 56; refine QA.out.mono ?_; clear QA; rintro e w6 ⟨rfl, hJ6, hK6⟩; have fk3 : w6.cell? ⟨b, o + k * 4 + 1, none⟩ = some (.int .u8 (op.kind.toNat : Int)) := ((hK6.below (B := w.heap.size) hbs (fun q _ hq => HC.out q hq)).cell (p := ⟨b, o + k * 4 + 1, none⟩) hbo).trans fk1; have fk4 : w6.cell? ⟨b, o + k * 4 + 2, none⟩ = some (.slice A3 k3 d3) := ((hK6.below (B := w.heap.size) hbs (fun q _ hq => HC.out q hq)).cell (p := ⟨b, o + k * 4 + 2, none⟩) hbo).trans fk2))
        have HD6 := Lib.hid (show ∀ d', FuseInv m d' (J.append op.kind op.body).2 → FuseAt w g m d' (opsW (l.take (k + 1))) w6 from fun d' hi => ⟨_, _, hJ6, since_ge (w := wo.drew) (w' := w6) HC.out hbs, HB.out.drew.trans (hK6.below (B := w.heap.size) hbs (fun k _ hc => HC.out k hc)), hi, HSA.out⟩)
        have HO := Lib.hid (fuse_out_append HI.out op.kind op.body)
        have HJ6 := Lib.hid hJ6
        clear hJ6 hK6 fk1 fk2 fk3 fk4
        generalize J.append op.kind op.body = r at *
        obtain ⟨r1, r2⟩ := r
        rcases HO.out with ⟨h1, h3⟩ | ⟨h1, h2, h3, h4⟩ | ⟨h1, h2, h3, h4⟩
        · have HA := Lib.hid (HD6.out _ h3)
          simp only at h1
          subst h1
          clear h3 HO
          go_wp2
          go_roundw
          case rel => exact ⟨d, k + 1, by omega, hd, rfl, by go_num, HA.out⟩
          case measure => simp [intOf]; omega
        · have HA := Lib.hid (HD6.out _ h3)
          simp only at h1 h4
          subst h1
          have QD := jDown w6 g _ _ HJ6.out
          simp only at QD
          rw [h4] at QD
          have HQ := Lib.hid QD
          have g1 : decide ((d : Int) + 1 > (m : Int)) = false := by simp; omega
          have g2 : decide ((m : Int) < (d : Int) + 1) = false := by simp; omega
          by_cases hdm : d + 1 = m
          · have g3 : ((d : Int) + 1 == (m : Int)) = true := by simp; omega
            have HDM := Lib.hid hdm
            clear h3 h4 QD HO hdm
            go_wp2_with fail
            refine HQ.out.mono ?_
            rintro e w7 ⟨rfl, rfl⟩
            go_wp2
            go_roundw
            case rel => exact ⟨d + 1, k + 1, by omega, by omega, by go_num, by go_num, HA.out⟩
            case measure => simp [intOf]; omega
          · have g3 : ((d : Int) + 1 == (m : Int)) = false := by simp; omega
            clear h3 h4 QD HO
            go_wp2
            go_roundw
            case rel => exact ⟨d + 1, k + 1, by omega, by omega, by go_num, by go_num, HA.out⟩
            case measure => simp [intOf]; omega
        · have HA := Lib.hid (HD6.out _ h3)
          simp only at h1 h4
          subst h1 h2
          have QD := jDown w6 g _ _ HJ6.out
          simp only at QD
          rw [h4] at QD
          have HQ := Lib.hid QD
          clear h3 h4 QD HO
          go_wp2_with fail
          refine HQ.out.mono ?_
          rintro e w7 ⟨rfl, rfl⟩
          go_wp2
          go_roundw
          case rel => exact ⟨d, k + 1, by omega, by omega, rfl, by go_num, HA.out⟩
          case measure => simp [intOf]; omega
      · go_wp2_with fail
        refine (jSync wo g C _ HJ.out hjf hjk).mono ?_
        rintro e w6 ⟨rfl, hJ6, hK6⟩
        have HD6 := Lib.hid (show ∀ d', FuseInv m d' J.sync.2 → FuseAt w g m d' (opsW (l.take (k + 1))) w6 from fun d' hi => ⟨_, _, hJ6, since_ge (w := wo) (w' := w6) HC.out hbs, HB.out.trans (hK6.below (B := w.heap.size) hbs (fun k _ hc => HC.out k hc)), hi, HSS.out⟩)
        have HO := Lib.hid (fuse_out_sync HI.out)
        have HJ6 := Lib.hid hJ6
        clear hJ6 hK6
        generalize J.sync = r at *
        obtain ⟨r1, r2⟩ := r
        rcases HO.out with ⟨h1, h3⟩ | ⟨h1, h2, h3, h4⟩ | ⟨h1, h2, h3, h4⟩
        · have HA := Lib.hid (HD6.out _ h3)
          simp only at h1
          subst h1
          clear h3 HO
          go_wp2
          go_roundw
          case rel => exact ⟨d, k + 1, by omega, hd, rfl, by go_num, HA.out⟩
          case measure => simp [intOf]; omega
        · have HA := Lib.hid (HD6.out _ h3)
          simp only at h1 h4
          subst h1
          have QD := jDown w6 g _ _ HJ6.out
          simp only at QD
          rw [h4] at QD
          have HQ := Lib.hid QD
          have g1 : decide ((d : Int) + 1 > (m : Int)) = false := by simp; omega
          have g2 : decide ((m : Int) < (d : Int) + 1) = false := by simp; omega
          by_cases hdm : d + 1 = m
          · have g3 : ((d : Int) + 1 == (m : Int)) = true := by simp; omega
            have HDM := Lib.hid hdm
            clear h3 h4 QD HO hdm
            go_wp2_with fail
            refine HQ.out.mono ?_
            rintro e w7 ⟨rfl, rfl⟩
            go_wp2
            go_roundw
            case rel => exact ⟨d + 1, k + 1, by omega, by omega, by go_num, by go_num, HA.out⟩
            case measure => simp [intOf]; omega
          · have g3 : ((d : Int) + 1 == (m : Int)) = false := by simp; omega
            clear h3 h4 QD HO
            go_wp2
            go_roundw
            case rel => exact ⟨d + 1, k + 1, by omega, by omega, by go_num, by go_num, HA.out⟩
            case measure => simp [intOf]; omega
        · have HA := Lib.hid (HD6.out _ h3)
          simp only at h1 h4
          subst h1 h2
          have QD := jDown w6 g _ _ HJ6.out
          simp only at QD
          rw [h4] at QD
          have HQ := Lib.hid QD
          clear h3 h4 QD HO
          go_wp2_with fail
          refine HQ.out.mono ?_
          rintro e w7 ⟨rfl, rfl⟩
          go_wp2
          go_roundw
          case rel => exact ⟨d, k + 1, by omega, by omega, rfl, by go_num, HA.out⟩
          case measure => simp [intOf]; omega
      · go_wp2_with fail
        refine (jEffect wo g C _ HJ.out hjf).mono ?_
        rintro e w6 ⟨rfl, hJ6, hK6⟩
        have HD6 := Lib.hid (show ∀ d', FuseInv m d' J.eff.2 → FuseAt w g m d' (opsW (l.take (k + 1))) w6 from fun d' hi => ⟨_, _, hJ6, since_ge (w := wo) (w' := w6) HC.out hbs, HB.out.trans (hK6.below (B := w.heap.size) hbs (fun k _ hc => HC.out k hc)), hi, HSE.out⟩)
        have HO := Lib.hid (fuse_out_eff HI.out)
        have HJ6 := Lib.hid hJ6
        clear hJ6 hK6
        generalize J.eff = r at *
        obtain ⟨r1, r2⟩ := r
        rcases HO.out with ⟨h1, h3⟩ | ⟨h1, h2, h3, h4⟩ | ⟨h1, h2, h3, h4⟩
        · have HA := Lib.hid (HD6.out _ h3)
          simp only at h1
          subst h1
          clear h3 HO
          go_wp2
          go_roundw
          case rel => exact ⟨d, k + 1, by omega, hd, rfl, by go_num, HA.out⟩
          case measure => simp [intOf]; omega
        · have HA := Lib.hid (HD6.out _ h3)
          simp only at h1 h4
          subst h1
          have QD := jDown w6 g _ _ HJ6.out
          simp only at QD
          rw [h4] at QD
          have HQ := Lib.hid QD
          have g1 : decide ((d : Int) + 1 > (m : Int)) = false := by simp; omega
          have g2 : decide ((m : Int) < (d : Int) + 1) = false := by simp; omega
          by_cases hdm : d + 1 = m
          · have g3 : ((d : Int) + 1 == (m : Int)) = true := by simp; omega
            have HDM := Lib.hid hdm
            clear h3 h4 QD HO hdm
            go_wp2_with fail
            refine HQ.out.mono ?_
            rintro e w7 ⟨rfl, rfl⟩
            go_wp2
            go_roundw
            case rel => exact ⟨d + 1, k + 1, by omega, by omega, by go_num, by go_num, HA.out⟩
            case measure => simp [intOf]; omega
          · have g3 : ((d : Int) + 1 == (m : Int)) = false := by simp; omega
            clear h3 h4 QD HO
            go_wp2
            go_roundw
            case rel => exact ⟨d + 1, k + 1, by omega, by omega, by go_num, by go_num, HA.out⟩
            case measure => simp [intOf]; omega
        · have HA := Lib.hid (HD6.out _ h3)
          simp only at h1 h4
          subst h1 h2
          have QD := jDown w6 g _ _ HJ6.out
          simp only at QD
          rw [h4] at QD
          have HQ := Lib.hid QD
          clear h3 h4 QD HO
          go_wp2_with fail
          refine HQ.out.mono ?_
          rintro e w7 ⟨rfl, rfl⟩
          go_wp2
          go_roundw
          case rel => exact ⟨d, k + 1, by omega, by omega, rfl, by go_num, HA.out⟩
          case measure => simp [intOf]; omega
    · obtain rfl : k = n := by omega
      have HB := Lib.hid hb
      clear hJ hC hb hI hsz
      go_wp2
      go_ret
      exact ⟨by simp, HB.out⟩
end Go.Proofs.YtddcfgbembjbhaaDoor
