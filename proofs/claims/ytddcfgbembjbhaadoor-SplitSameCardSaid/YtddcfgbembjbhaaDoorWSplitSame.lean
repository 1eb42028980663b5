/- The law SplitSame, walked. -/
import Derived.Test.YtddcfgbembjbhaaDoorPlanAt
import Derived.Test.YtddcfgbembjbhaaDoorOwn2
namespace Go.Proofs.YtddcfgbembjbhaaDoor
open Go.RowKit
set_option linter.unusedVariables false
/-- What holds in every world of the last statement. -/
def SameIn (g h : Nat) (P Q : PlanV) (w2 w' : World) : Prop := PlanAt w' g P ∧ PlanAt w' h Q ∧ Below w2.heap.size w2 w'
theorem SameIn.start {g h : Nat} {P Q : PlanV} {w2 : World} (hp : PlanAt w2 g P) (hq : PlanAt w2 h Q) : SameIn g h P Q w2 w2.drew := ⟨hp, hq, (Below.refl _ _).drew⟩
theorem SameIn.step {g h : Nat} {P Q : PlanV} {w2 w' w'' : World} (i : SameIn g h P Q w2 w') (hb : Below w'.heap.size w' w'') (hg : g < w2.heap.size) (hh : h < w2.heap.size) : SameIn g h P Q w2 w'' := by
  have := i.2.2.size
  exact ⟨i.1.below hb (by omega), i.2.1.below hb (by omega), i.2.2.trans (hb.mono (by omega))⟩
theorem SameIn.alloc {g h : Nat} {P Q : PlanV} {w2 w' : World} (i : SameIn g h P Q w2 w') (o : Obj) (hg : g < w2.heap.size) (hh : h < w2.heap.size) : SameIn g h P Q w2 (w'.alloc o) :=
  i.step ((Below.refl _ _).alloc (Nat.le_refl _) o) hg hh

theorem SameIn.grown {g h r : Nat} {P Q : PlanV} {w2 w' w'' : World} (i : SameIn g h P Q w2 w') (hb : w'.grownBy w'' (some r)) (hr : w2.heap.size ≤ r) (hg : g < w2.heap.size) (hh : h < w2.heap.size) : SameIn g h P Q w2 w'' := by
  have hs := i.2.2.size
  have hb' : Below w2.heap.size w' w'' := (Below.refl _ _).grown hb hs (fun k hk => by injection hk with hk; omega)
  exact ⟨i.1.below hb' hg, i.2.1.below hb' hh, i.2.2.trans hb'⟩
theorem SameIn.close {g h : Nat} {P Q : PlanV} {w w2 w' : World} (h0 : Below w.heap.size w w2) (hs : w.heap.size ≤ w2.heap.size) (i : SameIn g h P Q w2 w') : Below w.heap.size w w' := h0.trans (i.2.2.mono hs)
theorem PlanAt.far {w : World} {g : Nat} {P : PlanV} (h : PlanAt w g P) (p : Addr) (hne : p.block ≠ g) (v : Value) : PlanAt (w.setCell p v) g P := by
  have c : ∀ i, (w.setCell p v).cell? ⟨g, i, none⟩ = w.cell? ⟨g, i, none⟩ := fun i => World.cell?_setCell_other w p ⟨g, i, none⟩ v (fun e => hne (by rw [e]))
  unfold PlanAt at h ⊢
  simp only [c]
  exact h
theorem PlanAt.set3 {w : World} {g : Nat} {P : PlanV} (h : PlanAt w g P) (x y z : Int) :
    PlanAt (((w.setCell ⟨g, 1, none⟩ (.int .i64 x)).setCell ⟨g, 2, none⟩ (.int .i64 y)).setCell ⟨g, 4, none⟩ (.int .i64 z)) g { P with target := x, prev := y, percent := z } := by
  have o : ∀ (W : World) (i k : Nat) (v : Value), i ≠ k → (W.setCell ⟨g, k, none⟩ v).cell? ⟨g, i, none⟩ = W.cell? ⟨g, i, none⟩ := fun W i k v hne => World.cell?_setCell_other W ⟨g, k, none⟩ ⟨g, i, none⟩ v (fun e => hne (by injection e with _ e2; first | exact e2 | exact e2.symm))
  obtain ⟨c0, c1, c2, c3, c4, c5, c6, c7, c8, c9, c10, c11⟩ := h
  have s : ∀ (W : World) (k : Nat) (v u : Value), W.cell? ⟨g, k, none⟩ = some u → (W.setCell ⟨g, k, none⟩ v).cell? ⟨g, k, none⟩ = some v := fun W k v u hu => World.cell?_setCell_same' W _ v (by rw [hu]; rfl)
  refine ⟨?_, ?_, ?_, ?_, ?_, ?_, ?_, ?_, ?_, ?_, ?_, ?_⟩
  · rw [o _ 0 4 _ (by omega), o _ 0 2 _ (by omega), o _ 0 1 _ (by omega)]; exact c0
  · rw [o _ 1 4 _ (by omega), o _ 1 2 _ (by omega)]; exact s _ _ _ _ c1
  · rw [o _ 2 4 _ (by omega)]; exact s _ _ _ _ (by rw [o _ 2 1 _ (by omega)]; exact c2)
  · rw [o _ 3 4 _ (by omega), o _ 3 2 _ (by omega), o _ 3 1 _ (by omega)]; exact c3
  · exact s _ _ _ _ (by rw [o _ 4 2 _ (by omega), o _ 4 1 _ (by omega)]; exact c4)
  · rw [o _ 5 4 _ (by omega), o _ 5 2 _ (by omega), o _ 5 1 _ (by omega)]; exact c5
  · rw [o _ 6 4 _ (by omega), o _ 6 2 _ (by omega), o _ 6 1 _ (by omega)]; exact c6
  · rw [o _ 7 4 _ (by omega), o _ 7 2 _ (by omega), o _ 7 1 _ (by omega)]; exact c7
  · rw [o _ 8 4 _ (by omega), o _ 8 2 _ (by omega), o _ 8 1 _ (by omega)]; exact c8
  · rw [o _ 9 4 _ (by omega), o _ 9 2 _ (by omega), o _ 9 1 _ (by omega)]; exact c9
  · rw [o _ 10 4 _ (by omega), o _ 10 2 _ (by omega), o _ 10 1 _ (by omega)]; exact c10
  · rw [o _ 11 4 _ (by omega), o _ 11 2 _ (by omega), o _ 11 1 _ (by omega)]; exact c11

set_option maxRecDepth 100000 in
set_option maxHeartbeats 8000000 in
theorem walkSplitSame (w : World) (hw : 0 < w.heap.size) (ht : Four w) (P : PlanV) (hPo : P.Ok) (Q : PlanV) (hQo : Q.Ok) (A : Option Addr) (n c : Nat) (l : List UInt8) (hr : BytesAt w w.heap.size A n l) (hc : n ≤ c) (hn : c ≤ 140737488351232) :
    Calls Tryd.prog 12 #[P.val, Q.val, .slice A n c] w fun e w' => e = .returned (.bool true) ∧ Below w.heap.size w w' := by
  have hP := PlanAt.new w P
  have hQ := PlanAt.new (w.alloc (.cells P.cells.toArray 39)) Q
  clear hPo hQo
  obtain ⟨p0, p1, p2, p3, p4, p5, p6, p7, p8, p9, pA, pn, pc, cA, cn, cc⟩ := P
  obtain ⟨q0, q1, q2, q3, q4, q5, q6, q7, q8, q9, qA, qn, qc, dA, dn, dc⟩ := Q
  simp only [PlanV.val, PlanV.cells] at *
  have b1 := ((Below.refl w.heap.size w).alloc (Nat.le_refl _) (.cells #[.int .i64 p0, .int .i64 p1, .int .i64 p2, .int .i64 p3, .int .i64 p4, .int .i64 p5, .int .i64 p6, .int .i64 p7, .int .u64 p8, .int .u64 p9, .slice pA pn pc, .slice cA cn cc] 39)).alloc (by simp) (.cells #[.int .i64 q0, .int .i64 q1, .int .i64 q2, .int .i64 q3, .int .i64 q4, .int .i64 q5, .int .i64 q6, .int .i64 q7, .int .u64 q8, .int .u64 q9, .slice qA qn qc, .slice dA dn dc] 39)
  have hP := hP.below ((Below.refl _ (w.alloc (.cells #[.int .i64 p0, .int .i64 p1, .int .i64 p2, .int .i64 p3, .int .i64 p4, .int .i64 p5, .int .i64 p6, .int .i64 p7, .int .u64 p8, .int .u64 p9, .slice pA pn pc, .slice cA cn cc] 39))).alloc (Nat.le_refl _) (.cells #[.int .i64 q0, .int .i64 q1, .int .i64 q2, .int .i64 q3, .int .i64 q4, .int .i64 q5, .int .i64 q6, .int .i64 q7, .int .u64 q8, .int .u64 q9, .slice qA qn qc, .slice dA dn dc] 39)) (by simp)
  go_enter Tryd.func12, Tryd.ntmps12
  go_wp2_with fail
  simp only [World.size_alloc] at hQ
  have hf1 : ∀ (W : World) (C : Array Value) (i : Nat), (W.alloc (.cells C 39)).frozen? ⟨W.heap.size, i, none⟩ = false := by
    intro W C i
    have h := heap_alloc_new W (.cells C 39)
    unfold World.frozen?
    rw [h]
    simp
  have hf1 := hf1 (w.alloc (.cells #[.int .i64 p0, .int .i64 p1, .int .i64 p2, .int .i64 p3, .int .i64 p4, .int .i64 p5, .int .i64 p6, .int .i64 p7, .int .u64 p8, .int .u64 p9, .slice pA pn pc, .slice cA cn cc] 39)) #[.int .i64 q0, .int .i64 q1, .int .i64 q2, .int .i64 q3, .int .i64 q4, .int .i64 q5, .int .i64 q6, .int .i64 q7, .int .u64 q8, .int .u64 q9, .slice qA qn qc, .slice dA dn dc]
  simp only [World.size_alloc] at hf1
  generalize hw1 : (w.alloc (.cells #[.int .i64 p0, .int .i64 p1, .int .i64 p2, .int .i64 p3, .int .i64 p4, .int .i64 p5, .int .i64 p6, .int .i64 p7, .int .u64 p8, .int .u64 p9, .slice pA pn pc, .slice cA cn cc] 39)).alloc (.cells #[.int .i64 q0, .int .i64 q1, .int .i64 q2, .int .i64 q3, .int .i64 q4, .int .i64 q5, .int .i64 q6, .int .i64 q7, .int .u64 q8, .int .u64 q9, .slice qA qn qc, .slice dA dn dc] 39) = w1 at *
  have hg1 : w1.heap.size = w.heap.size + 2 := by rw [← hw1]; simp
  clear hw1
  refine (head19 w1 (by omega) (ht.below b1 hw)).mono ?_
  rintro e w2 ⟨rfl, b2⟩
  have hP2 := hP.below b2 (by omega)
  have hQ2 := hQ.below b2 (by omega)
  have b3 := b1.trans (b2.mono (by omega))
  have hs2 := b2.size
  have hf : ∀ i, w2.frozen? ⟨w.heap.size + 1, i, none⟩ = false := fun i => (b2.frozen (p := ⟨w.heap.size + 1, i, none⟩) (by show w.heap.size + 1 < _; omega)).trans (hf1 i)
  have f1 := hf 1
  have f2 := hf 2
  have f4 := hf 4
  clear hP hQ b1 b2 hf hf1
  have HP2 := Lib.hid hP2
  have HQ2 := Lib.hid hQ2
  have HB3 := Lib.hid b3
  have HR := Lib.hid hr
  have HT := Lib.hid ht
  obtain ⟨c0, c1, c2, c3, c4, c5, c6, c7, c8, c9, c10, c11⟩ := hP2
  obtain ⟨d0, d1, d2, d3, d4, d5, d6, d7, d8, d9, d10, d11⟩ := hQ2
  simp only at c0 c1 c2 c3 c4 c5 c6 c7 c8 c9 c10 c11 d0 d1 d2 d3 d4 d5 d6 d7 d8 d9 d10 d11
  have HG := Lib.hid hg1
  have hgw : w.heap.size < w2.heap.size := by omega
  have hgw2 : w.heap.size + 1 < w2.heap.size := by omega
  clear b3 hr ht hg1
  go_wp2_with fail
  have hP3 := ((HP2.out.far ⟨w.heap.size + 1, 1, none⟩ (by show w.heap.size + 1 ≠ _; omega) (.int .i64 p1)).far ⟨w.heap.size + 1, 2, none⟩ (by show w.heap.size + 1 ≠ _; omega) (.int .i64 p2)).far ⟨w.heap.size + 1, 4, none⟩ (by show w.heap.size + 1 ≠ _; omega) (.int .i64 p4)
  have hQ3 := HQ2.out.set3 p1 p2 p4
  have hb3 := ((HB3.out.setCell (p := ⟨w.heap.size + 1, 1, none⟩) (by show _ ≤ w.heap.size + 1; omega) (.int .i64 p1)).setCell (p := ⟨w.heap.size + 1, 2, none⟩) (by show _ ≤ w.heap.size + 1; omega) (.int .i64 p2)).setCell (p := ⟨w.heap.size + 1, 4, none⟩) (by show _ ≤ w.heap.size + 1; omega) (.int .i64 p4)
  have hsz : (((w2.setCell ⟨w.heap.size + 1, 1, none⟩ (.int .i64 p1)).setCell ⟨w.heap.size + 1, 2, none⟩ (.int .i64 p2)).setCell ⟨w.heap.size + 1, 4, none⟩ (.int .i64 p4)).heap.size = w2.heap.size := by simp
  generalize ((w2.setCell ⟨w.heap.size + 1, 1, none⟩ (.int .i64 p1)).setCell ⟨w.heap.size + 1, 2, none⟩ (.int .i64 p2)).setCell ⟨w.heap.size + 1, 4, none⟩ (.int .i64 p4) = w3 at *
  have hs3 : w.heap.size + 1 < w3.heap.size := by omega
  clear hgw hgw2 hsz hs2 c0 c1 c2 c3 c4 c5 c6 c7 c8 c9 c10 c11 d0 d1 d2 d3 d4 d5 d6 d7 d8 d9 d10 d11 f1 f2 f4 HB3 HP2 HQ2 HG
  have HST := Lib.hid (SameIn.start (g := w.heap.size) (h := w.heap.size + 1) (P := ⟨p0, p1, p2, p3, p4, p5, p6, p7, p8, p9, pA, pn, pc, cA, cn, cc⟩) (Q := ⟨q0, p1, p2, q3, p4, q5, q6, q7, q8, q9, qA, qn, qc, dA, dn, dc⟩) hP3 hQ3)
  have HB3 := Lib.hid hb3
  have hr3 := (HR.out.below hb3)
  have ht3 := HT.out.below hb3 hw
  have QA := Lib.hid (fun (W : World) (h : SameIn w.heap.size (w.heap.size + 1) ⟨p0, p1, p2, p3, p4, p5, p6, p7, p8, p9, pA, pn, pc, cA, cn, cc⟩ ⟨q0, p1, p2, q3, p4, q5, q6, q7, q8, q9, qA, qn, qc, dA, dn, dc⟩ w3 W) => (hr3.more (show _ ≤ w3.heap.size by omega)).below h.2.2)
  have QT := Lib.hid (fun (W : World) (h : SameIn w.heap.size (w.heap.size + 1) ⟨p0, p1, p2, p3, p4, p5, p6, p7, p8, p9, pA, pn, pc, cA, cn, cc⟩ ⟨q0, p1, p2, q3, p4, q5, q6, q7, q8, q9, qA, qn, qc, dA, dn, dc⟩ w3 W) => ht3.below h.2.2 (by omega))
  have Q35 := Lib.hid (fun (W : World) (h : SameIn w.heap.size (w.heap.size + 1) ⟨p0, p1, p2, p3, p4, p5, p6, p7, p8, p9, pA, pn, pc, cA, cn, cc⟩ ⟨q0, p1, p2, q3, p4, q5, q6, q7, q8, q9, qA, qn, qc, dA, dn, dc⟩ w3 W) => bucket A n c l w3.heap.size W (QA.out W h) (by omega) (QT.out W h))
  have Q37p := Lib.hid (fun (W : World) (h : SameIn w.heap.size (w.heap.size + 1) ⟨p0, p1, p2, p3, p4, p5, p6, p7, p8, p9, pA, pn, pc, cA, cn, cc⟩ ⟨q0, p1, p2, q3, p4, q5, q6, q7, q8, q9, qA, qn, qc, dA, dn, dc⟩ w3 W) => ofSplit ⟨p0, p1, p2, p3, p4, p5, p6, p7, p8, p9, pA, pn, pc, cA, cn, cc⟩ A n c l W ((QA.out W h).more h.2.2.size) (by omega) (QT.out W h) (by have := h.2.2.size; omega))
  have Q37q := Lib.hid (fun (W : World) (h : SameIn w.heap.size (w.heap.size + 1) ⟨p0, p1, p2, p3, p4, p5, p6, p7, p8, p9, pA, pn, pc, cA, cn, cc⟩ ⟨q0, p1, p2, q3, p4, q5, q6, q7, q8, q9, qA, qn, qc, dA, dn, dc⟩ w3 W) => ofSplit ⟨q0, p1, p2, q3, p4, q5, q6, q7, q8, q9, qA, qn, qc, dA, dn, dc⟩ A n c l W ((QA.out W h).more h.2.2.size) (by omega) (QT.out W h) (by have := h.2.2.size; omega))
  simp only at Q37p Q37q
  have QO := Lib.hid (fun (W : World) (h : SameIn w.heap.size (w.heap.size + 1) ⟨p0, p1, p2, p3, p4, p5, p6, p7, p8, p9, pA, pn, pc, cA, cn, cc⟩ ⟨q0, p1, p2, q3, p4, q5, q6, q7, q8, q9, qA, qn, qc, dA, dn, dc⟩ w3 (W.alloc (.cells #[] 5))) => OwnB.empty W w.heap.size W.heap.size rfl (by have := h.2.2.size; simp at this; omega))
  have QS := Lib.hid (fun (W : World) (h : SameIn w.heap.size (w.heap.size + 1) ⟨p0, p1, p2, p3, p4, p5, p6, p7, p8, p9, pA, pn, pc, cA, cn, cc⟩ ⟨q0, p1, p2, q3, p4, q5, q6, q7, q8, q9, qA, qn, qc, dA, dn, dc⟩ w3 W) => h.2.2.size)
  have QB := Lib.hid (fun (W : World) (h : SameIn w.heap.size (w.heap.size + 1) ⟨p0, p1, p2, p3, p4, p5, p6, p7, p8, p9, pA, pn, pc, cA, cn, cc⟩ ⟨q0, p1, p2, q3, p4, q5, q6, q7, q8, q9, qA, qn, qc, dA, dn, dc⟩ w3 W) => (show w.heap.size ≤ W.heap.size by have := h.2.2.size; omega))
  clear hr3 ht3 hb3
  obtain ⟨c0, c1, c2, c3, c4, c5, c6, c7, c8, c9, c10, c11⟩ := hP3
  obtain ⟨d0, d1, d2, d3, d4, d5, d6, d7, d8, d9, d10, d11⟩ := hQ3
  simp only at c0 c1 c2 c3 c4 c5 c6 c7 c8 c9 c10 c11 d0 d1 d2 d3 d4 d5 d6 d7 d8 d9 d10 d11
  generalize splitOf p1 p2 p4 (bucketOf l) = X at *
  go_region_held3 (fun w' => (w'.cell? ⟨w.heap.size, 0, none⟩ = some (.int .i64 p0) ∧ w'.cell? ⟨w.heap.size, 1, none⟩ = some (.int .i64 p1) ∧ w'.cell? ⟨w.heap.size, 2, none⟩ = some (.int .i64 p2) ∧ w'.cell? ⟨w.heap.size, 3, none⟩ = some (.int .i64 p3) ∧ w'.cell? ⟨w.heap.size, 4, none⟩ = some (.int .i64 p4) ∧ w'.cell? ⟨w.heap.size, 5, none⟩ = some (.int .i64 p5) ∧ w'.cell? ⟨w.heap.size, 6, none⟩ = some (.int .i64 p6) ∧ w'.cell? ⟨w.heap.size, 7, none⟩ = some (.int .i64 p7) ∧ w'.cell? ⟨w.heap.size, 8, none⟩ = some (.int .u64 p8) ∧ w'.cell? ⟨w.heap.size, 9, none⟩ = some (.int .u64 p9) ∧ w'.cell? ⟨w.heap.size, 10, none⟩ = some (.slice pA pn pc) ∧ w'.cell? ⟨w.heap.size, 11, none⟩ = some (.slice cA cn cc)) ∧ (w'.cell? ⟨w.heap.size + 1, 0, none⟩ = some (.int .i64 q0) ∧ w'.cell? ⟨w.heap.size + 1, 1, none⟩ = some (.int .i64 p1) ∧ w'.cell? ⟨w.heap.size + 1, 2, none⟩ = some (.int .i64 p2) ∧ w'.cell? ⟨w.heap.size + 1, 3, none⟩ = some (.int .i64 q3) ∧ w'.cell? ⟨w.heap.size + 1, 4, none⟩ = some (.int .i64 p4) ∧ w'.cell? ⟨w.heap.size + 1, 5, none⟩ = some (.int .i64 q5) ∧ w'.cell? ⟨w.heap.size + 1, 6, none⟩ = some (.int .i64 q6) ∧ w'.cell? ⟨w.heap.size + 1, 7, none⟩ = some (.int .i64 q7) ∧ w'.cell? ⟨w.heap.size + 1, 8, none⟩ = some (.int .u64 q8) ∧ w'.cell? ⟨w.heap.size + 1, 9, none⟩ = some (.int .u64 q9) ∧ w'.cell? ⟨w.heap.size + 1, 10, none⟩ = some (.slice qA qn qc) ∧ w'.cell? ⟨w.heap.size + 1, 11, none⟩ = some (.slice dA dn dc)) ∧ Below w3.heap.size w3 w')
    ((first | exact HST.out | assumption | exact SameIn.grown (P := ⟨p0, p1, p2, p3, p4, p5, p6, p7, p8, p9, pA, pn, pc, cA, cn, cc⟩) (Q := ⟨q0, p1, p2, q3, p4, q5, q6, q7, q8, q9, qA, qn, qc, dA, dn, dc⟩) (by assumption) hg4 hsz (by omega) hs3 | exact SameIn.step (P := ⟨p0, p1, p2, p3, p4, p5, p6, p7, p8, p9, pA, pn, pc, cA, cn, cc⟩) (Q := ⟨q0, p1, p2, q3, p4, q5, q6, q7, q8, q9, qA, qn, qc, dA, dn, dc⟩) (by assumption) (by assumption) (by omega) hs3 | exact SameIn.alloc (P := ⟨p0, p1, p2, p3, p4, p5, p6, p7, p8, p9, pA, pn, pc, cA, cn, cc⟩) (Q := ⟨q0, p1, p2, q3, p4, q5, q6, q7, q8, q9, qA, qn, qc, dA, dn, dc⟩) (by assumption) _ (by omega) hs3))
    ((first | (refine step_append_bytes (by rfl) (.tmp 31) (.tmp 32) (by rfl) (by rfl) (QO.out _ (by assumption)) (by rfl) (QA.out _ (by assumption)) (by omega) (QB.out _ (by assumption)) ?_; intro A4 c4 w4 hown4 hg4 hat4; have hby := hown4.bytes; simp only [Nat.zero_add, List.nil_append] at hby) | (go_at_call_of 35 A4; refine (bucket A4 _ c4 _ _ _ hby (by omega) (QT.out _ (by assumption))).mono ?_; rintro e w' ⟨rfl, rfl⟩) | (go_at_call 35; refine (Q35.out _ (by assumption)).mono ?_; rintro e w' ⟨rfl, rfl⟩) | (go_at_call_of 37 q0; refine (Q37q.out _ (by assumption)).mono ?_; rintro e w' ⟨rfl, hb⟩; have hsz := Nat.le_trans (QS.out _ (by assumption)) hb.size) | (go_at_call_of 37 p0; refine (Q37p.out _ (by assumption)).mono ?_; rintro e w' ⟨rfl, hb⟩; have hsz := Nat.le_trans (QS.out _ (by assumption)) hb.size) | fail))
  all_goals go_wp2
  all_goals go_ret
  all_goals exact ⟨rfl, SameIn.close (P := ⟨p0, p1, p2, p3, p4, p5, p6, p7, p8, p9, pA, pn, pc, cA, cn, cc⟩) (Q := ⟨q0, p1, p2, q3, p4, q5, q6, q7, q8, q9, qA, qn, qc, dA, dn, dc⟩) HB3.out (by omega) (by assumption)⟩
end Go.Proofs.YtddcfgbembjbhaaDoor
