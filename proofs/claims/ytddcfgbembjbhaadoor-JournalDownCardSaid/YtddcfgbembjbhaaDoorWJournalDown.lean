/- The law JournalDown, walked. -/
import Derived.Test.YtddcfgbembjbhaaDoorGreat
import Derived.Test.YtddcfgbembjbhaaDoorRecMath
import Derived.Deep.RegionHeld3
namespace Go.Proofs.YtddcfgbembjbhaaDoor
open Go.RowKit
set_option linter.unusedVariables false
set_option linter.unusedSimpArgs false
theorem dead_append (F : List UInt8) (k : UInt8) (b : List UInt8) : (⟨F, [], -1, true⟩ : JV).append k b = (if 8192 < b.length then 2 else 61, ⟨F, [], -1, true⟩) := by
  unfold JV.append
  split
  · rfl
  · rfl
theorem dead_sync (F : List UInt8) : (⟨F, [], -1, true⟩ : JV).sync = (61, ⟨F, [], -1, true⟩) := rfl
theorem dead_eff (F : List UInt8) : (⟨F, [], -1, true⟩ : JV).eff = (61, ⟨F, [], -1, true⟩) := rfl
theorem dead_crash (F : List UInt8) (n : Int) : (⟨F, [], -1, true⟩ : JV).crash n = ⟨F, [], -1, true⟩ := by
  unfold JV.crash
  simp
theorem calm : -9223372036854775808 ≤ (-1 : Int) ∧ (-1 : Int) ≤ 9223372036854775807 := by decide
/-- What holds ahead of each round: a journal that is down. -/
def DownAt (w : World) (g : Nat) (F : List UInt8) (wr : World) : Prop := ∃ C, JIn wr 99 g C ⟨F, [], -1, true⟩ ∧ (∀ q, C q → w.heap.size ≤ q) ∧ Below w.heap.size w wr
theorem DownAt.next {w wr w' : World} {g : Nat} {F : List UInt8} {C : Nat → Prop} (hC : ∀ q, C q → w.heap.size ≤ q) (hb : Below w.heap.size w wr) (h : JIn w' 99 g (since wr C w') ⟨F, [], -1, true⟩) (hK : Kept C wr w') : DownAt w g F w' :=
  ⟨_, h, since_ge (w := wr) (w' := w') hC hb.size, hb.trans (hK.below hb.size (fun q _ hq => hC q hq))⟩
theorem DownAt.later {w wr w' : World} {g : Nat} {F : List UInt8} (h : DownAt w g F wr) (hb : Below wr.heap.size wr w') : DownAt w g F w' := by
  obtain ⟨C, h1, h2, h3⟩ := h
  exact ⟨C, h1.later hb, h2, h3.trans (hb.mono h3.size)⟩
theorem DownAt.down {w wr : World} {g : Nat} {F : List UInt8} (h : DownAt w g F wr) : Calls Tryd.prog 65 #[.pointer (some ⟨g, 0, none⟩)] wr fun e w' => e = .returned (.bool true) ∧ w' = wr := by
  obtain ⟨C, h1, _⟩ := h
  exact jDown wr g C _ h1
theorem DownAt.synced {w wr : World} {g : Nat} {F : List UInt8} (h : DownAt w g F wr) (hF : F.length ≤ 140737488351232) : Calls Tryd.prog 60 #[.pointer (some ⟨g, 0, none⟩)] wr (Copied wr F.length F) := by
  obtain ⟨C, h1, _⟩ := h
  exact jSynced wr g C _ h1 hF
set_option maxRecDepth 100000 in
set_option maxHeartbeats 4000000 in
theorem walkJournalDown (w : World) (hw : 0 < w.heap.size) (ht : Four w) (A : Option Addr) (n c : Nat) (l : List OpV) (hr : OpsAt w w.heap.size A n l) (hc : n ≤ c) (hn : n ≤ 9223372036854775806) :
    Calls Tryd.prog 27 #[.slice A n c] w fun e w' => e = .returned (.bool true) ∧ Below w.heap.size w w' := by
  have HT := Lib.hid ht
  have HR := Lib.hid hr
  have HL := Lib.hid hr.1
  have kc := fun (w : World) (C : Array Value) (n c : Nat) => Lib.run_convert_bytes_const (P := Tryd.prog) w 23 5 C n c Tryd.underlying23 Tryd.underlying5
  clear ht hr
  go_enter Tryd.func27, Tryd.ntmps27
  go_wp2_with fail
  refine (head06 w hw HT.out).mono ?_
  rintro e w0 ⟨rfl, b0⟩
  have HB0 := Lib.hid b0
  have hs0 := b0.size
  clear b0
  go_wp2_with fail
  refine (jNew w0).mono ?_
  rintro e w1 ⟨rfl, hJ1, b1⟩
  have HB1 := Lib.hid (HB0.out.trans (b1.mono hs0))
  have HJ1 := Lib.hid hJ1
  have hs1 := HB1.out.size
  have hC1 : ∀ q, q = w0.heap.size → w.heap.size ≤ q := fun q e => by omega
  clear hJ1 b1
  go_wp2_with fail
  refine (great62 A n c l w.heap.size w1 (OpsAt.below HR.out HB1.out) hn).mono ?_
  rintro e w1' ⟨rfl, rfl⟩
  by_cases hG : 200000 ≤ opsW l
  · have hGd : decide (200000 ≤ opsW l) = true := by simpa using hG
    rw [hGd]
    clear hG hGd
    go_wp2
    go_ret
    exact ⟨by simp, HB1.out⟩
  have hGd : decide (200000 ≤ opsW l) = false := by simpa using hG
  rw [hGd]
  clear hG hGd
  have HJ1' := Lib.hid (HJ1.out.later ((Below.refl w1.heap.size w1).alloc (Nat.le_refl _) (.cells #[.int .u8 120] 5 (1, 2))))
  have HB1' := Lib.hid (HB1.out.alloc hs1 (.cells #[.int .u8 120] 5 (1, 2)))
  have HBY := Lib.hid (BytesAt.new w1 #[.int .u8 120] 5 (1, 2) [120] 1 w1.heap.size (w1.heap.size + 1) rfl rfl rfl (by omega))
  have hz1 : (w1.alloc (.cells #[.int .u8 120] 5 (1, 2))).heap.size = w1.heap.size + 1 := by simp
  go_wp2_with fail
  refine (jAppend _ (by omega) (HT.out.below HB1'.out hw) w0.heap.size _ JV.new HJ1'.out (by decide) 1 (some ⟨w1.heap.size, 0, none⟩) 1 1 (w1.heap.size + 1) [120] HBY.out (by omega) (by omega) (by decide)).mono ?_
  rintro e w2 ⟨rfl, hJ2, hK2⟩
  rw [new_append 1 [120] (by decide)] at hJ2 ⊢
  have hC2 := since_ge (w' := w2) hC1 (show w.heap.size ≤ (w1.alloc (.cells #[.int .u8 120] 5 (1, 2))).heap.size by omega)
  have HB2 := Lib.hid (HB1'.out.trans ((hK2.below (B := w.heap.size) (by omega) (fun k _ hc => hC1 k hc))))
  have HJ2 := Lib.hid hJ2
  have hs2 := HB2.out.size
  clear hJ2 hK2
  go_wp2_with fail
  generalize since (w1.alloc (.cells #[.int .u8 120] 5 (1, 2))) (fun k => k = w0.heap.size) w2 = C2 at *
  clear HJ1 HBY hC1 hz1 kc HJ1' HB1'
  have hF9 : (fput 1 [120]).length = 9 := by rw [fput_len]; rfl
  have HO := Lib.hid (head_open 1 [120] (by decide))
  generalize fput 1 [120] = F at *
  refine (jSync w2 w0.heap.size C2 _ HJ2.out calm (by simp only [List.length_nil]; omega)).mono ?_
  rintro e w3 ⟨rfl, hJ3, hK3⟩
  rw [show (⟨[], F, -1, false⟩ : JV).sync = (0, ⟨F, [], -1, false⟩) from rfl] at hJ3 ⊢
  have hC3 := since_ge (w' := w3) hC2 hs2
  have HB3 := Lib.hid (HB2.out.trans (hK3.below (B := w.heap.size) hs2 (fun k _ hc => hC2 k hc)))
  have HJ3 := Lib.hid hJ3
  have hs3 := HB3.out.size
  clear hJ3 hK3
  generalize since w2 C2 w3 = C3 at *
  go_wp2_with fail
  refine (jCrash w3 w0.heap.size C3 _ HJ3.out (by simp only [List.length_nil]; omega) 0).mono ?_
  rintro e w4 ⟨⟨v4, rfl⟩, hJ4, hK4⟩
  rw [show (⟨F, [], -1, false⟩ : JV).crash 0 = ⟨F, [], -1, true⟩ by unfold JV.crash; simp] at hJ4
  have HD4 := Lib.hid (DownAt.next hC3 HB3.out hJ4 hK4)
  clear hJ4 hK4 HJ3 hC3 HB3
  generalize w0.heap.size = g at *
  go_wp2_with fail
  refine (HD4.out.synced (by omega)).mono ?_
  rintro e w5 ⟨A5, c5, rfl, ho5, hb5⟩
  rw [hF9]
  rw [hF9] at ho5
  have hcv5 := conv_str ho5.bytes c5
  have HD5 := Lib.hid (HD4.out.later hb5)
  have hse : ((str F).toList == (str F).toList) = true := by simp
  have hsn : ((str F).toList != (str F).toList) = false := by simp
  clear ho5 hb5 HD4
  go_wp2_with fail
  clear hcv5
  go_loopw [6, 7] (fun x6 x7 wr => ∃ (k : Nat), k ≤ n ∧ x6 = .int .i64 (k : Int) ∧ DownAt w g F wr) (fun x6 _ _ => n - (intOf x6).toNat)
  case atStart => exact ⟨0, Nat.zero_le _, rfl, HD5.out⟩
  case round =>
    obtain ⟨k, hk, rfl, hD⟩ := hrel
    obtain ⟨wo, rfl⟩ : ∃ wo, wo = wr := ⟨_, rfl⟩
    by_cases hkn : k < n
    · obtain ⟨C, hJ, hC, hb⟩ := id hD
      obtain ⟨b, o, op, rfl, hbo, hop, A3, k3, d3, f0, f1, f2, f3, hby, hk3, hkd, _⟩ := HR.out.at_ hb hkn
      have hbs := hb.size
      have HJ := Lib.hid hJ
      have HC := Lib.hid hC
      have HB := Lib.hid hb
      have HY := Lib.hid hby
      clear hJ hC hb hop hby hD
      rcases what4 op.what with hq | hq | hq | hq
      · have fk1 : wo.drew.cell? ⟨b, o + k * 4 + 1, none⟩ = some (.int .u8 (op.kind.toNat : Int)) := f1
        have fk2 : wo.drew.cell? ⟨b, o + k * 4 + 2, none⟩ = some (.slice A3 k3 d3) := f2
        have QA := Lib.hid (jAppend wo.drew (show 0 < wo.heap.size by omega) (HT.out.below HB.out.drew hw) g C _ (HJ.out.later (Below.refl _ wo).drew) calm op.kind A3 k3 d3 w.heap.size op.body (HY.out.draws 1) hbs hk3 (by simp))
        go_wp2_with fail
        go_region_held3 (fun w' => w'.cell? ⟨b, o + k * 4 + 1, none⟩ = some (.int .u8 (op.kind.toNat : Int)) ∧ w'.cell? ⟨b, o + k * 4 + 2, none⟩ = some (.slice A3 k3 d3))
          ((first | assumption | trivial))
          ((go_at_call 56; refine QA.out.mono ?_; clear QA; rintro e w6 ⟨rfl, hJ6, hK6⟩; have fk3 : w6.cell? ⟨b, o + k * 4 + 1, none⟩ = some (.int .u8 (op.kind.toNat : Int)) := ((hK6.below (B := w.heap.size) hbs (fun q _ hq => HC.out q hq)).cell (p := ⟨b, o + k * 4 + 1, none⟩) hbo).trans fk1; have fk4 : w6.cell? ⟨b, o + k * 4 + 2, none⟩ = some (.slice A3 k3 d3) := ((hK6.below (B := w.heap.size) hbs (fun q _ hq => HC.out q hq)).cell (p := ⟨b, o + k * 4 + 2, none⟩) hbo).trans fk2))
        rw [dead_append] at hJ6 ⊢
        have HD6 := Lib.hid (DownAt.next HC.out HB.out.drew hJ6 hK6)
        clear hJ6 hK6 fk1 fk2 fk3 fk4
        have hx : ∃ x : Int, x = (if 8192 < op.body.length then 2 else 61) ∧ (x == 0) = false := ⟨_, rfl, by split <;> rfl⟩
        obtain ⟨x, hx, hx0⟩ := hx
        rw [← hx]
        clear hx
        go_wp2_with fail
        refine HD6.out.down.mono ?_
        rintro e w7 ⟨rfl, rfl⟩
        go_wp2_with fail
        refine (HD6.out.synced (by omega)).mono ?_
        rintro e w8 ⟨A8, c8, rfl, ho8, hb8⟩
        rw [hF9] at ho8
        have hcv8 := conv_str ho8.bytes c8
        have HD8 := Lib.hid (HD6.out.later hb8)
        clear ho8 hb8
        go_wp2
        go_roundw
        case rel => exact ⟨k + 1, by omega, by go_num, HD8.out⟩
        case measure => simp [intOf]; omega
      · go_wp2_with fail
        refine (jSync wo g C _ HJ.out calm (by simp only [List.length_nil]; omega)).mono ?_
        rintro e w6 ⟨rfl, hJ6, hK6⟩
        rw [dead_sync] at hJ6 ⊢
        have HD6 := Lib.hid (DownAt.next HC.out HB.out hJ6 hK6)
        clear hJ6 hK6
        go_wp2_with fail
        refine HD6.out.down.mono ?_
        rintro e w7 ⟨rfl, rfl⟩
        go_wp2_with fail
        refine (HD6.out.synced (by omega)).mono ?_
        rintro e w8 ⟨A8, c8, rfl, ho8, hb8⟩
        rw [hF9] at ho8
        have hcv8 := conv_str ho8.bytes c8
        have HD8 := Lib.hid (HD6.out.later hb8)
        clear ho8 hb8
        go_wp2
        go_roundw
        case rel => exact ⟨k + 1, by omega, by go_num, HD8.out⟩
        case measure => simp [intOf]; omega
      · go_wp2_with fail
        refine (jEffect wo g C _ HJ.out calm).mono ?_
        rintro e w6 ⟨rfl, hJ6, hK6⟩
        rw [dead_eff] at hJ6 ⊢
        have HD6 := Lib.hid (DownAt.next HC.out HB.out hJ6 hK6)
        clear hJ6 hK6
        go_wp2_with fail
        refine HD6.out.down.mono ?_
        rintro e w7 ⟨rfl, rfl⟩
        go_wp2_with fail
        refine (HD6.out.synced (by omega)).mono ?_
        rintro e w8 ⟨A8, c8, rfl, ho8, hb8⟩
        rw [hF9] at ho8
        have hcv8 := conv_str ho8.bytes c8
        have HD8 := Lib.hid (HD6.out.later hb8)
        clear ho8 hb8
        go_wp2
        go_roundw
        case rel => exact ⟨k + 1, by omega, by go_num, HD8.out⟩
        case measure => simp [intOf]; omega
      · go_wp2_with fail
        refine (jCrash wo g C _ HJ.out (by simp only [List.length_nil]; omega) op.num).mono ?_
        rintro e w6 ⟨⟨v6, rfl⟩, hJ6, hK6⟩
        rw [dead_crash] at hJ6
        have HD6 := Lib.hid (DownAt.next HC.out HB.out hJ6 hK6)
        clear hJ6 hK6
        go_wp2_with fail
        refine HD6.out.down.mono ?_
        rintro e w7 ⟨rfl, rfl⟩
        go_wp2_with fail
        refine (HD6.out.synced (by omega)).mono ?_
        rintro e w8 ⟨A8, c8, rfl, ho8, hb8⟩
        rw [hF9] at ho8
        have hcv8 := conv_str ho8.bytes c8
        have HD8 := Lib.hid (HD6.out.later hb8)
        clear ho8 hb8
        go_wp2
        go_roundw
        case rel => exact ⟨k + 1, by omega, by go_num, HD8.out⟩
        case measure => simp [intOf]; omega
    · obtain rfl : k = n := by omega
      obtain ⟨C, hJ, hC, hb⟩ := hD
      have HJ := Lib.hid hJ
      have HC := Lib.hid hC
      have HB := Lib.hid hb
      have hbs := hb.size
      clear hJ hC hb
      go_wp2_with fail
      refine (jOpen wo (by omega) (HT.out.below HB.out hw) g C _ HJ.out (fun q hq => by have := HC.out q hq; omega) (by simp only []; omega) calm).mono ?_
      rintro e w7 ⟨w6, AK, nK, cK, AB, nB, cB, rfl, hK6, hC6, hK7, hJ7⟩
      rw [HO.out] at hC6 hJ7 ⊢
      have hct := hC6.count
      simp only [List.map_cons, List.map_nil, List.length_cons, List.length_nil, Nat.zero_add] at hct
      obtain ⟨h1, h2⟩ := hct
      subst h1 h2
      have HB7 := Lib.hid (HB.out.trans (((hK6.trans hK7 (fun _ _ hc => hc)).below (B := w.heap.size) hbs (fun k _ hc => HC.out k hc))))
      have HJ7 := Lib.hid hJ7
      have hs7 := HB7.out.size
      clear hC6 hK6 hK7 hJ7
      go_wp2_with fail
      refine (jDown w7 g _ _ HJ7.out).mono ?_
      rintro e w8 ⟨rfl, rfl⟩
      go_wp2_with fail
      refine (jSynced w8 g _ _ HJ7.out (by simp only []; omega)).mono ?_
      rintro e w9 ⟨A9, c9, rfl, ho9, hb9⟩
      rw [show (⟨F, [], -1, false⟩ : JV).kept = F from rfl, hF9] at ho9
      have hcv9 := conv_str ho9.bytes c9
      have HB9 := Lib.hid (HB7.out.trans (hb9.mono hs7))
      clear ho9 hb9
      go_wp2
      go_ret
      exact ⟨by simp, HB9.out⟩
end Go.Proofs.YtddcfgbembjbhaaDoor
