/- great: is it too much? Walked. -/
import Derived.Test.YtddcfgbembjbhaaDoorJOps
namespace Go.Proofs.YtddcfgbembjbhaaDoor
open Go.RowKit
set_option linter.unusedVariables false
set_option linter.unusedSimpArgs false
theorem opW_le (o : OpV) : 10 ≤ opW o ∧ opW o ≤ 200010 := by unfold opW; omega
set_option maxRecDepth 100000 in
set_option maxHeartbeats 2000000 in
theorem great62 (A : Option Addr) (n c : Nat) (l : List OpV) (B : Nat) (w : World) (hr : OpsAt w B A n l) (hn : n ≤ 9223372036854775806) :
    Calls Tryd.prog 62 #[.slice A n c] w fun e w' => e = .returned (.bool (decide (200000 ≤ opsW l))) ∧ w = w' := by
  have HR := Lib.hid hr
  have HL := Lib.hid hr.1
  clear hr
  go_enter Tryd.func62, Tryd.ntmps62
  go_wp2
  go_loop [3, 4] (fun x3 x4 => ∃ (k : Nat), k ≤ n ∧ opsW (l.take k) ≤ 400010 ∧ x3 = .int .i64 ((opsW (l.take k) : Nat) : Int) ∧ x4 = .int .i64 (k : Int)) (fun _ x4 => n - (intOf x4).toNat)
  case atStart => exact ⟨0, Nat.zero_le _, by simp [opsW], rfl, rfl⟩
  case round =>
    obtain ⟨k, hk, hN, rfl, rfl⟩ := hrel
    by_cases hlt : k < n ∧ opsW (l.take k) < 200000
    · obtain ⟨h1, h2⟩ := hlt
      obtain ⟨b, o, op, rfl, hb, hop, A3, k3, d3, c0, c1, c2, c3, hby, hk3, hkd, _⟩ := HR.out.at_ (Below.refl B w) h1
      have hsuc := opsW_take_succ (l := l) (k := k) (by rw [HL.out]; exact h1)
      have hge : l[k]'(by rw [HL.out]; exact h1) = op := (List.getElem?_eq_some_iff.1 hop).2
      rw [hge] at hsuc
      have hW : opW op = 10 + min k3 200000 := by unfold opW; rw [hby.1]
      rw [hW] at hsuc
      have HS := Lib.hid hsuc
      have f1 : decide ((opsW (l.take k) : Int) < 200000) = true := by simpa using (by omega : ((opsW (l.take k) : Nat) : Int) < 200000)
      have f2 : decide ((k : Int) < (n : Int)) = true := by simpa using h1
      generalize opsW (l.take k) = N at *
      clear hsuc hW hop hby hge
      by_cases h3 : k3 ≤ 200000
      · have g3 : (k3 : Int) ≤ 200000 := by omega
        go_wp2_with fail
        go_round
        case rel => exact ⟨k + 1, by omega, by rw [HS.out]; omega, by rw [HS.out]; go_num, by go_num⟩
        case measure => simp [intOf]; omega
      · have g3 : ¬ (k3 : Int) ≤ 200000 := by omega
        go_wp2_with fail
        go_round
        case rel => exact ⟨k + 1, by omega, by rw [HS.out]; omega, by rw [HS.out]; go_num, by go_num⟩
        case measure => simp [intOf]; omega
    · have hle := opsW_take_le l k
      have hkn : k = n → opsW (l.take k) = opsW l := fun e => by rw [List.take_of_length_le (by rw [HL.out]; omega)]
      have HK := Lib.hid hkn
      have HE := Lib.hid hle
      clear hkn hle
      generalize opsW (l.take k) = N at *
      by_cases h2 : N < 200000
      · have h1 : k = n := by omega
        subst h1
        have f1 : decide ((N : Int) < 200000) = true := by simpa using (by omega : (N : Int) < 200000)
        have f3 : decide ((N : Int) ≥ 200000) = false := by simp; omega
        have f4 : decide ((200000 : Int) ≤ (N : Int)) = false := by simp; omega
        go_wp2
        go_ret
        exact ⟨by have := HK.out (by trivial); simp; omega, rfl⟩
      · have f1 : decide ((N : Int) < 200000) = false := by simp; omega
        have f3 : decide ((N : Int) ≥ 200000) = true := by simp; omega
        have f4 : decide ((200000 : Int) ≤ (N : Int)) = true := by simp; omega
        by_cases h1 : k < n
        · go_wp2
          go_ret
          exact ⟨by have := HE.out; simp; omega, rfl⟩
        · go_wp2
          go_ret
          exact ⟨by have := HE.out; simp; omega, rfl⟩
end Go.Proofs.YtddcfgbembjbhaaDoor
