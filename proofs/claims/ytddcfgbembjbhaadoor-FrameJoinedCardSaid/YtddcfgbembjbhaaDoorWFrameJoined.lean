/- The law FrameJoined, walked. -/
import Derived.Test.YtddcfgbembjbhaaDoorLists
import Derived.Test.YtddcfgbembjbhaaDoorAll2
import Derived.Deep.RegionHeld3
namespace Go.Proofs.YtddcfgbembjbhaaDoor
open Go.RowKit
set_option linter.unusedVariables false
theorem joined_lists {w w0 : World} {base n c : Nat} {A : Option Addr} {us1 us2 : List Value} {bs1 bs2 : List (List UInt8)} (h : OwnV w base A n c ([] ++ us1 ++ us2)) (hl : us1.length = bs1.length ∧ us2.length = bs2.length)
    (h1 : ∀ (i : Nat) (b : List UInt8), bs1[i]? = some b → ∃ A n c, us1[i]? = some (.slice A n c) ∧ BytesAt w0 w0.heap.size A n b) (h2 : ∀ (i : Nat) (b : List UInt8), bs2[i]? = some b → ∃ A n c, us2[i]? = some (.slice A n c) ∧ BytesAt w0 w0.heap.size A n b)
    (hb : Below w0.heap.size w0 w) : Lists w w.heap.size A n (bs1 ++ bs2) := by
  rw [List.nil_append] at h
  refine h.lists (by simp [hl.1, hl.2]) fun i b hi => ?_
  rcases Nat.lt_or_ge i bs1.length with hlt | hge
  · rw [List.getElem?_append_left hlt] at hi
    obtain ⟨A2, n2, c2, hv, hr⟩ := h1 i b hi
    exact ⟨A2, n2, c2, by rw [List.getElem?_append_left (by omega)]; exact hv, (hr.below hb).more hb.size⟩
  · rw [List.getElem?_append_right hge] at hi
    obtain ⟨A2, n2, c2, hv, hr⟩ := h2 _ b hi
    exact ⟨A2, n2, c2, by rw [List.getElem?_append_right (by omega), hl.1]; exact hv, (hr.below hb).more hb.size⟩
section
variable {P : Program} {ops : Array Oper} {Q : Exit → Act → World → Prop} {md : Region.Mode} {S : World → Prop} {st : List Nat}
theorem wpAnyG_take {i : Nat} {oi : Oper} {v : Value} {d : Option Tmp} (hd : oi.dst = d) {fuel : Nat} {listed : Array Bool} {a : Act} {w : World} (hi : ops[i]? = some oi)
    (hs : Region.noSelect ops = true) (hf : Region.free md ops listed i = true) (hr : (Region.ready md ops listed).contains i = true) (hwt : waitsFor md ops listed st i = true) (hcl : closedB md ops listed = true)
    (hQ : ∀ c a w, Q (.panic c) (a.put d v) w → Q (.panic c) a w) (hg : Region.wanted oi (yielded ops a.tmps) = true) (hy : ∀ w, S w → (execOp a.eval oi).run P w = .ok (.value v) w) (hS : S w)
    (h : wpAnyL P md ops Q S st fuel (listed.setIfInBounds i true) (a.put d v) w) : wpAnyL P md ops Q S st (fuel + 1) listed a w := by
  subst hd
  exact wpAnyL_first listed S hi hs hQ (fun _ j w' hc hL hu hj h => h (not_store hwt hL hc hu hj)) (.inr fun _ h => h) fuel listed a w (closed_of hcl) (fun _ h => h) (Region.free_spec hi hf) (by simpa using hr) (.inl ⟨hg, hy⟩) hS h
theorem wpAnyG_one {i : Nat} {o : Oper} {fuel : Nat} {listed : Array Bool} {a : Act} {w : World} (hr : Region.ready md ops listed = [i]) (ho : ops[i]? = some o) (hg : Region.wanted o (yielded ops a.tmps) = true)
    (h : o.wp P a w (fun a' w' => (i ∉ st → S w') ∧ wpAnyL P md ops Q S st fuel (listed.setIfInBounds i true) a' w') Q) : wpAnyL P md ops Q S st (fuel + 1) listed a w :=
  ⟨fun h0 => (by rw [hr] at h0; cases h0), fun j hj => by
    rw [hr] at hj
    obtain rfl : j = i := by simpa using hj
    unfold wpOp
    simp only [ho, hg, if_true]
    exact .inl h⟩
theorem region_L {id : Nat} {a : Act} {w : World} (S : World → Prop) (st : List Nat) (hm : P.follows .mixedOrders = true)
    (h : wpAnyL P .any ops Q S st ops.size (Array.replicate ops.size false) a w.drew) : (Code.region id ops true).wp P Q a w := wp_region_any hm (wpAny_of_L _ _ _ _ h)
theorem wp_hide {o : Oper} {a : Act} {w : World} {K : Act → World → Prop} (h : ∀ K' : Act → World → Prop, (∀ a w, K a w → K' a w) → o.wp P a w K' Q) : o.wp P a w K Q := h K fun _ _ h => h
end
theorem wp_lists {o : Oper} {a : Act} {w : World} {K : Act → World → Prop} {Q : Exit → Act → World → Prop} (d : Option Tmp) (hd : o.dst = d) (s x : Operand)
    (ho : o.op = .call { callee := .builtin .append, args := #[s, x], argTypes := #[61, 61] })
    {base n c : Nat} {A : Option Addr} {vs : List Value} (hs : a.eval s = .slice A n c) (hown : OwnV w base A n c vs) {B m c2 : Nat} {A2 : Option Addr} {us : List Value} (hx : a.eval x = .slice A2 m c2) (hr : VAt w B A2 m us)
    (hb : (n + m) * 24 ≤ 140737488355328) (hbase : base ≤ w.heap.size)
    (h : ∀ A' c' w', OwnV w' base A' (n + m) c' (vs ++ us) → w.grownBy w' (A.map (·.block)) → (A'.map (·.block) = A.map (·.block) ∨ A'.map (·.block) = some w.heap.size) → K (a.put d (.slice A' (n + m) c')) w') : o.wp Tryd.prog a w K Q := by
  subst hd
  obtain ⟨A', c', w', hrun, h2, h3, h4⟩ := run_append_lists hown (c2 := c2) hr hb hbase o.type
  unfold Oper.wp execOp
  simp only [ho, resolve, invoke, builtin, Sem.run_bind, Sem.run_pure, Result.andThen_ok, List.map_toArray, List.map_cons, List.map_nil, hs, hx, hrun]
  exact h A' c' w' h2 h3 h4
set_option maxRecDepth 100000 in
set_option maxHeartbeats 8000000 in
theorem walkFrameJoined (w : World) (hw : 0 < w.heap.size) (ht : Four w) (A : Option Addr) (n c : Nat) (l : List UInt8) (hr : BytesAt w w.heap.size A n l) (hc : n ≤ c) (hn : c ≤ 140737488351232)
    (A2 : Option Addr) (n2 c2 : Nat) (l2 : List UInt8) (hr2 : BytesAt w w.heap.size A2 n2 l2) (hc2 : n2 ≤ c2) (hn2 : c2 ≤ 140737488351232) :
    Calls Tryd.prog 23 #[.slice A n c, .slice A2 n2 c2] w fun e w' => e = .returned (.bool true) ∧ Below w.heap.size w w' := by
  have HL := Lib.hid hr.1
  have HL2 := Lib.hid hr2.1
  have HR := Lib.hid hr
  have HR2 := Lib.hid hr2
  have HT := Lib.hid ht
  clear hr hr2 ht
  by_cases h1 : 200000 < n
  · go_enter Tryd.func23, Tryd.ntmps23
    go_wp2_with fail
    refine (head03 w hw HT.out).mono ?_
    rintro e w1 ⟨rfl, b1⟩
    go_wp2
    go_ret
    exact ⟨by simp, b1⟩
  by_cases h2 : 200000 < n2
  · go_enter Tryd.func23, Tryd.ntmps23
    go_wp2_with fail
    refine (head03 w hw HT.out).mono ?_
    rintro e w1 ⟨rfl, b1⟩
    go_wp2
    go_ret
    exact ⟨by simp, b1⟩
  go_enter Tryd.func23, Tryd.ntmps23
  go_wp2_with fail
  refine (head03 w hw HT.out).mono ?_
  rintro e w1 ⟨rfl, b1⟩
  have hs1 := b1.size
  go_wp2_with fail
  refine (frameAll A n c l w1 (by omega) (HT.out.below b1 hw) ((HR.out.below b1).more hs1) (by omega) hc).mono ?_
  rintro e w3 ⟨AK, nK, cK, AB, nB, cB, rfl, hC3, hb3⟩
  have C3 := Lib.hid hC3
  have b3 := b1.trans (hb3.mono hs1)
  have hs3 := b3.size
  clear hC3 hb3
  go_wp2_with fail
  refine (frameAll A2 n2 c2 l2 w3 (by omega) (HT.out.below b3 hw) ((HR2.out.below b3).more hs3) (by omega) hc2).mono ?_
  rintro e w4 ⟨AK', nK', cK', AB', nB', cB', rfl, hC4, hb4⟩
  have C4 := Lib.hid hC4
  have B4 := Lib.hid hb4
  have b4 := b3.trans (hb4.mono hs3)
  have hs4 := b4.size
  clear hC4 hb4
  by_cases hf : flen (frames l) = n
  rotate_left
  · have hne : (((flen (frames l) : Nat) : Int) != (n : Int)) = true := by simp; omega
    generalize flen (frames l) = F at *
    clear hf
    go_wp2
    go_ret
    exact ⟨by simp, b4⟩
  have J1 := Lib.hid (frames_joined l l2 (by rw [hf, HL.out]))
  have J2 := Lib.hid (flen_joined l l2 (by rw [hf, HL.out]))
  have hne : (((flen (frames l) : Nat) : Int) != (n : Int)) = false := by simp; omega
  have HF := Lib.hid hf
  rw [hf] at hne ⊢
  have hF2 : flen (frames l2) ≤ n2 := by have := (frames_are l2).2.2.1; rw [HL2.out] at this; exact this
  have e5 := OwnB.empty w4 w4.heap.size w4.heap.size rfl (Nat.le_refl _)
  have b5 := b4.alloc hs4 (.cells #[] 5)
  have HE5 := Lib.hid e5
  have HB5 := Lib.hid ((Below.refl w4.heap.size w4).alloc (Nat.le_refl _) (.cells #[] 5))
  have HR5 := Lib.hid (HR.out.below b5)
  clear e5 b5 hf
  go_wp2_with (first
    | (at_builtin; refine wpList_append_bytes rfl (.tmp 43) (.tmp 44) rfl rfl HE5.out rfl HR5.out (by omega) (by simp) ?_; intro A6 c6 w6 ho6 hg6 hat6; simp only [Nat.zero_add, List.nil_append] at ho6; have hb6 : Below w4.heap.size w4 w6 := HB5.out.grown hg6 (by simp) (by intro k hk; simp at hk; omega); have H6 := Lib.hid ho6; have B6 := Lib.hid hb6; clear ho6 hg6 hat6 hb6)
    | (at_builtin; refine wpList_append_bytes rfl (.tmp 45) (.tmp 46) rfl rfl H6.out rfl (HR2.out.below (b4.trans (B6.out.mono hs4))) (by omega) B6.out.size ?_; intro A7 c7 w7 ho7 hg7 hat7; have B7 := Lib.hid (below_grown B6.out B6.out.size H6.out hg7); have H7 := Lib.hid ho7; clear ho7 hg7 hat7))
  have b7 := b4.trans (B7.out.mono hs4)
  have hs7 := b7.size
  refine (frameAll A7 (n + n2) c7 (l ++ l2) w7 (by omega) (HT.out.below b7 hw) H7.out.bytes (by omega) H7.out.cap).mono ?_
  rintro e w8 ⟨AK8, nK8, cK8, AB8, nB8, cB8, rfl, hC8, hb8⟩
  have B8 := Lib.hid hb8
  have b8 := b7.trans (hb8.mono hs7)
  have hs8 := b8.size
  rw [J1.out, List.map_append, List.map_append] at hC8
  rw [J2.out, HL.out, Int.natCast_add]
  have C8 := Lib.hid hC8
  clear hC8 hb8
  have b48 := B7.out.trans (B8.out.mono B7.out.size)
  have C38 := (C3.out.later B4.out).later b48
  have C48 := C4.out.later b48
  have qK8 := C8.out.kinds.bytes
  have qK := C38.kinds.bytes
  have qK' := C48.kinds.bytes
  obtain ⟨us1, v1, u1, x1⟩ := C38.open_lists
  obtain ⟨us2, v2, u2, x2⟩ := C48.open_lists
  have L8 := Lib.hid C8.out.lists
  have hnK : nK ≤ n ∧ nB ≤ n := by
    have h1 := C38.count
    have h2 := flen_count (frames l)
    have h3 := (frames_are l).2.2.1
    rw [HL.out] at h3
    simp at h1
    omega
  have hnK' : nK' ≤ n2 ∧ nB' ≤ n2 := by
    have h1 := C48.count
    have h2 := flen_count (frames l2)
    have h3 := (frames_are l2).2.2.1
    rw [HL2.out] at h3
    simp at h1
    omega
  have hnB8 : nB8 ≤ nB + nB' := by
    have h1 := C8.out.count.2
    have h2 := C38.count.2
    have h3 := C48.count.2
    simp at h1 h2 h3
    omega
  obtain ⟨k1, k2⟩ := hnK
  obtain ⟨k3, k4⟩ := hnK'
  have w77 : IntKind.i64.wrap ((n : Int) + ((flen (frames l2) : Nat) : Int)) = (n : Int) + ((flen (frames l2) : Nat) : Int) := IntWalk.i64_in _ (by omega)
  generalize flen (frames l2) = F2 at *
  generalize (frames l).map (·.1) = ks1 at *
  generalize (frames l2).map (·.1) = ks2 at *
  generalize (frames l).map (·.2) = bs1 at *
  generalize (frames l2).map (·.2) = bs2 at *
  have hcv55 : ∀ W, Below w8.heap.size w8 W → (convert 23 9 (.slice AK8 nK8 cK8)).run Tryd.prog W = .ok (.string (str (ks1 ++ ks2))) W := fun W hb => conv_str (qK8.below hb) cK8
  have HK := Lib.hid qK
  have HK' := Lib.hid qK'
  have HV1 := Lib.hid v1
  have HV2 := Lib.hid v2
  have HU := Lib.hid (And.intro u1 u2)
  have HX1 := Lib.hid x1
  have HX2 := Lib.hid x2
  clear C38 C48 b48 qK8 qK qK' v1 v2 u1 u2 x1 x2
  go_wp2_with fail
  have HE10 : Hid (OwnB (w8.drew.alloc (.cells #[] 5)) w8.heap.size (some ⟨w8.heap.size, 0, none⟩) 0 0 []) := Lib.hid (OwnB.empty w8.drew w8.heap.size _ rfl (Nat.le_refl _))
  have HB10 : Hid (Below w8.heap.size w8 (w8.drew.alloc (.cells #[] 5))) := Lib.hid ((Below.refl _ w8).drew.alloc (Nat.le_refl _) _)
  have HST : Hid (Below w8.heap.size w8 w8.drew) := Lib.hid (Below.refl _ w8).drew
  have hstepA : Hid (∀ (U : World) (ob : Obj), Below w8.heap.size w8 U → Below w8.heap.size w8 (U.alloc ob)) := Lib.hid fun U ob h => h.alloc h.size ob
  have hstepD : Hid (∀ (U : World) (m : Nat), Below w8.heap.size w8 U → Below w8.heap.size w8 (U.drewN m)) := Lib.hid fun U m h => below_draws h m
  generalize hs : str (ks1 ++ ks2) = s1 at *
  have HS := Lib.hid hs
  clear hs
  refine region_L (fun w' => Below w8.heap.size w8 w') [] (by kernel_rfl) ?_
  refine wpAnyG_take (i := 0) (d := some 52) (v := .bool true) rfl rfl (by kernel_rfl) (by kernel_rfl) (by kernel_rfl) (by kernel_rfl) (by kernel_rfl) (fun _ _ _ h => h) (by rfl) (fun w' h => by go_simp) HST.out ?_
  simp only [Act.put, List.setIfInBounds_toArray, List.set_cons_zero, List.set_cons_succ]
  refine wpAnyG_take (i := 1) (d := some 53) (v := .bool true) rfl rfl (by kernel_rfl) (by kernel_rfl) (by kernel_rfl) (by kernel_rfl) (by kernel_rfl) (fun _ _ _ h => h) (by rfl) (fun w' h => by go_simp) HST.out ?_
  simp only [Act.put, List.setIfInBounds_toArray, List.set_cons_zero, List.set_cons_succ]
  refine wpAnyG_take (i := 2) (d := some 54) (v := .slice AK8 nK8 cK8) rfl rfl (by kernel_rfl) (by kernel_rfl) (by kernel_rfl) (by kernel_rfl) (by kernel_rfl) (fun _ _ _ h => h) (by rfl) (fun w' h => by go_simp) HST.out ?_
  simp only [Act.put, List.setIfInBounds_toArray, List.set_cons_zero, List.set_cons_succ]
  refine wpAnyG_take (i := 3) (d := some 55) (v := .string s1) rfl rfl (by kernel_rfl) (by kernel_rfl) (by kernel_rfl) (by kernel_rfl) (by kernel_rfl) (fun _ _ _ h => h) (by rfl) (fun w' h => by have := hcv55 w' h; go_simp) HST.out ?_
  simp only [Act.put, List.setIfInBounds_toArray, List.set_cons_zero, List.set_cons_succ]
  refine wpAnyG_take (i := 5) (d := some 57) (v := .slice AK nK cK) rfl rfl (by kernel_rfl) (by kernel_rfl) (by kernel_rfl) (by kernel_rfl) (by kernel_rfl) (fun _ _ _ h => h) (by rfl) (fun w' h => by go_simp) HST.out ?_
  simp only [Act.put, List.setIfInBounds_toArray, List.set_cons_zero, List.set_cons_succ]
  refine wpAnyG_take (i := 7) (d := some 59) (v := .slice AK' nK' cK') rfl rfl (by kernel_rfl) (by kernel_rfl) (by kernel_rfl) (by kernel_rfl) (by kernel_rfl) (fun _ _ _ h => h) (by rfl) (fun w' h => by go_simp) HST.out ?_
  simp only [Act.put, List.setIfInBounds_toArray, List.set_cons_zero, List.set_cons_succ]
  refine wpAnyG_one (i := 4) (by kernel_rfl) rfl (by rfl) ?_
  refine wp_value (some 56) rfl (v := .slice (some ⟨w8.heap.size, 0, none⟩) 0 0) (w1 := w8.drew.alloc (.cells #[] 5)) (by go_simp) ⟨fun _ => HB10.out, ?_⟩
  simp only [Act.put, List.setIfInBounds_toArray, List.set_cons_zero, List.set_cons_succ]
  refine wpAnyG_one (i := 6) (by kernel_rfl) rfl (by rfl) ?_
  refine wp_bytes (some 58) rfl (.tmp 56) (.tmp 57) rfl rfl HE10.out rfl (HK.out.below HB10.out) (by omega) HB10.out.size ?_
  intro A10 c10 w10 ho10 hg10 hat10
  simp only [Nat.zero_add, List.nil_append] at ho10 ⊢
  have hb10 := below_grown HB10.out HB10.out.size HE10.out hg10
  have H10 := Lib.hid ho10; have B10 := Lib.hid hb10; clear ho10 hg10 hat10 hb10
  refine ⟨fun _ => B10.out, ?_⟩
  simp only [Act.put, List.setIfInBounds_toArray, List.set_cons_zero, List.set_cons_succ]
  refine wpAnyG_one (i := 8) (by kernel_rfl) rfl (by rfl) ?_
  refine wp_bytes (some 60) rfl (.tmp 58) (.tmp 59) rfl rfl H10.out rfl (HK'.out.below B10.out) (by omega) B10.out.size ?_
  intro A11 c11 w11 ho11 hg11 hat11
  have hb11 := below_grown B10.out B10.out.size H10.out hg11
  have hcv61 := conv_str ho11.bytes c11
  rw [HS.out] at hcv61
  have B11 := Lib.hid hb11; have HE12 := Lib.hid (OwnV.empty w11 w8.heap.size w11.heap.size rfl hb11.size); have HB12 := Lib.hid (hb11.alloc hb11.size (.cells #[] 23)); clear ho11 hg11 hat11 hb11
  refine ⟨fun _ => B11.out, ?_⟩
  simp only [Act.put, List.setIfInBounds_toArray, List.set_cons_zero, List.set_cons_succ]
  refine wpAnyG_one (i := 9) (by kernel_rfl) rfl (by rfl) ?_
  refine wp_value (some 61) rfl (v := .string s1) (w1 := w11) (by go_simp) ⟨fun _ => B11.out, ?_⟩
  simp only [Act.put, List.setIfInBounds_toArray, List.set_cons_zero, List.set_cons_succ]
  refine wpAnyG_take (i := 10) (d := some 62) (v := .bool true) rfl rfl (by kernel_rfl) (by kernel_rfl) (by kernel_rfl) (by kernel_rfl) (by kernel_rfl) (fun _ _ _ h => h) (by rfl) (fun w' h => by go_simp) B11.out ?_
  simp only [Act.put, List.setIfInBounds_toArray, List.set_cons_zero, List.set_cons_succ]
  refine wpAnyG_take (i := 11) (d := some 63) (v := .bool true) rfl rfl (by kernel_rfl) (by kernel_rfl) (by kernel_rfl) (by kernel_rfl) (by kernel_rfl) (fun _ _ _ h => h) (by rfl) (fun w' h => by go_simp) B11.out ?_
  simp only [Act.put, List.setIfInBounds_toArray, List.set_cons_zero, List.set_cons_succ]
  refine wpAnyG_take (i := 12) (d := some 64) (v := .bool true) rfl rfl (by kernel_rfl) (by kernel_rfl) (by kernel_rfl) (by kernel_rfl) (by kernel_rfl) (fun _ _ _ h => h) (by rfl) (fun w' h => by go_simp) B11.out ?_
  simp only [Act.put, List.setIfInBounds_toArray, List.set_cons_zero, List.set_cons_succ]
  refine wpAnyG_take (i := 13) (d := some 65) (v := .slice AB8 nB8 cB8) rfl rfl (by kernel_rfl) (by kernel_rfl) (by kernel_rfl) (by kernel_rfl) (by kernel_rfl) (fun _ _ _ h => h) (by rfl) (fun w' h => by go_simp) B11.out ?_
  simp only [Act.put, List.setIfInBounds_toArray, List.set_cons_zero, List.set_cons_succ]
  refine wpAnyG_take (i := 15) (d := some 67) (v := .slice AB nB cB) rfl rfl (by kernel_rfl) (by kernel_rfl) (by kernel_rfl) (by kernel_rfl) (by kernel_rfl) (fun _ _ _ h => h) (by rfl) (fun w' h => by go_simp) B11.out ?_
  simp only [Act.put, List.setIfInBounds_toArray, List.set_cons_zero, List.set_cons_succ]
  refine wpAnyG_take (i := 17) (d := some 69) (v := .slice AB' nB' cB') rfl rfl (by kernel_rfl) (by kernel_rfl) (by kernel_rfl) (by kernel_rfl) (by kernel_rfl) (fun _ _ _ h => h) (by rfl) (fun w' h => by go_simp) B11.out ?_
  simp only [Act.put, List.setIfInBounds_toArray, List.set_cons_zero, List.set_cons_succ]
  refine wpAnyG_one (i := 14) (by kernel_rfl) rfl (by rfl) ?_
  refine wp_value (some 66) rfl (v := .slice (some ⟨w11.heap.size, 0, none⟩) 0 0) (w1 := w11.alloc (.cells #[] 23)) (by go_simp) ⟨fun _ => HB12.out, ?_⟩
  simp only [Act.put, List.setIfInBounds_toArray, List.set_cons_zero, List.set_cons_succ]
  refine wpAnyG_one (i := 16) (by kernel_rfl) rfl (by rfl) ?_
  refine wp_lists (some 68) rfl (.tmp 66) (.tmp 67) rfl rfl HE12.out rfl (HV1.out.below HB12.out) (by omega) HB12.out.size ?_
  intro A13 c13 w13 ho13 hg13 hat13
  have hb13 := below_grownV HB12.out HB12.out.size HE12.out hg13
  simp only [Nat.zero_add] at ho13 ⊢
  have H13 := Lib.hid ho13; have B13 := Lib.hid hb13; clear ho13 hg13 hat13 hb13
  refine ⟨fun _ => B13.out, ?_⟩
  simp only [Act.put, List.setIfInBounds_toArray, List.set_cons_zero, List.set_cons_succ]
  refine wpAnyG_one (i := 18) (by kernel_rfl) rfl (by rfl) ?_
  refine wp_lists (some 70) rfl (.tmp 68) (.tmp 69) rfl rfl H13.out rfl (HV2.out.below B13.out) (by omega) B13.out.size ?_
  intro A14 c14 w14 ho14 hg14 hat14
  have hb14 := below_grownV B13.out B13.out.size H13.out hg14
  have Q14 := Lib.hid (same AB8 nB8 cB8 A14 _ c14 (bs1 ++ bs2) w14.heap.size w14 ((L8.out.below hb14).more hb14.size) (joined_lists ho14 HU.out HX1.out HX2.out hb14) (by omega))
  have B14 := Lib.hid hb14; clear ho14 hg14 hat14 hb14
  refine ⟨fun _ => B14.out, ?_⟩
  simp only [Act.put, List.setIfInBounds_toArray, List.set_cons_zero, List.set_cons_succ]
  refine wpAnyG_one (i := 19) (by kernel_rfl) rfl (by rfl) ?_
  refine wp_hide (fun K' hK' => ?_)
  go_simp
  refine Q14.out.mono ?_
  rintro e w' ⟨rfl, m, rfl⟩
  refine hK' _ _ ⟨fun _ => below_draws B14.out m, ?_⟩
  have HM := Lib.hid (below_draws B14.out m)
  clear hK' K'
  generalize w14.drewN m = w15 at *
  refine wpAnyG_take (i := 20) (d := some 72) (v := .bool true) rfl rfl (by kernel_rfl) (by kernel_rfl) (by kernel_rfl) (by kernel_rfl) (by kernel_rfl) (fun _ _ _ h => h) (by rfl) (fun w' h => by go_simp) HM.out ?_
  simp only [Act.put, List.setIfInBounds_toArray, List.set_cons_zero, List.set_cons_succ]
  refine wpAnyG_take (i := 21) (d := some 73) (v := .bool true) rfl rfl (by kernel_rfl) (by kernel_rfl) (by kernel_rfl) (by kernel_rfl) (by kernel_rfl) (fun _ _ _ h => h) (by rfl) (fun w' h => by go_simp) HM.out ?_
  simp only [Act.put, List.setIfInBounds_toArray, List.set_cons_zero, List.set_cons_succ]
  refine wpAnyG_take (i := 22) (d := some 74) (v := .int .i64 ((n : Int) + (F2 : Int))) rfl rfl (by kernel_rfl) (by kernel_rfl) (by kernel_rfl) (by kernel_rfl) (by kernel_rfl) (fun _ _ _ h => h) (by rfl) (fun w' h => by go_simp) HM.out ?_
  simp only [Act.put, List.setIfInBounds_toArray, List.set_cons_zero, List.set_cons_succ]
  refine wpAnyG_take (i := 23) (d := some 75) (v := .int .i64 (n : Int)) rfl rfl (by kernel_rfl) (by kernel_rfl) (by kernel_rfl) (by kernel_rfl) (by kernel_rfl) (fun _ _ _ h => h) (by rfl) (fun w' h => by go_simp) HM.out ?_
  simp only [Act.put, List.setIfInBounds_toArray, List.set_cons_zero, List.set_cons_succ]
  refine wpAnyG_take (i := 24) (d := some 76) (v := .int .i64 (F2 : Int)) rfl rfl (by kernel_rfl) (by kernel_rfl) (by kernel_rfl) (by kernel_rfl) (by kernel_rfl) (fun _ _ _ h => h) (by rfl) (fun w' h => by go_simp) HM.out ?_
  simp only [Act.put, List.setIfInBounds_toArray, List.set_cons_zero, List.set_cons_succ]
  refine wpAnyG_take (i := 25) (d := some 77) (v := .int .i64 ((n : Int) + (F2 : Int))) rfl rfl (by kernel_rfl) (by kernel_rfl) (by kernel_rfl) (by kernel_rfl) (by kernel_rfl) (fun _ _ _ h => h) (by rfl) (fun w' h => by go_simp) HM.out ?_
  simp only [Act.put, List.setIfInBounds_toArray, List.set_cons_zero, List.set_cons_succ]
  refine wpAnyG_take (i := 26) (d := some 78) (v := .bool true) rfl rfl (by kernel_rfl) (by kernel_rfl) (by kernel_rfl) (by kernel_rfl) (by kernel_rfl) (fun _ _ _ h => h) (by rfl) (fun w' h => by go_simp) HM.out ?_
  simp only [Act.put, List.setIfInBounds_toArray, List.set_cons_zero, List.set_cons_succ]
  refine wpAnyG_take (i := 27) (d := some 79) (v := .bool true) rfl rfl (by kernel_rfl) (by kernel_rfl) (by kernel_rfl) (by kernel_rfl) (by kernel_rfl) (fun _ _ _ h => h) (by rfl) (fun w' h => by go_simp) HM.out ?_
  simp only [Act.put, List.setIfInBounds_toArray, List.set_cons_zero, List.set_cons_succ]
  refine wpAnyG_take (i := 28) (d := some 4) (v := .bool true) rfl rfl (by kernel_rfl) (by kernel_rfl) (by kernel_rfl) (by kernel_rfl) (by kernel_rfl) (fun _ _ _ h => h) (by rfl) (fun w' h => by go_simp) HM.out ?_
  simp only [Act.put, List.setIfInBounds_toArray, List.set_cons_zero, List.set_cons_succ]
  refine wpAnyL_done (by kernel_rfl) ?_ _
  go_wp2
  go_ret
  exact ⟨by simp, b8.trans (HM.out.mono hs8)⟩
end Go.Proofs.YtddcfgbembjbhaaDoor
