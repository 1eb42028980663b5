/- Routes: the program's Pick: a range over a function that may be left: walked. -/
import Derived.Test.YtddcfgbembjbhaaDoorRoute4
namespace Go.Proofs.YtddcfgbembjbhaaDoor
open Go.RowKit Go.Shelf
set_option linter.unusedVariables false
set_option linter.unusedSimpArgs false
attribute [local go_sem] Oper.semAt_some
/-- Between two rounds of Pick. -/
structure PickJ (w : World) (rec : Loop) (P : PlanV) (A : Option Addr) (n c : Nat) (s : Int) (l : List UInt8) (T : Nat) (k : Nat) (W : World) : Prop where
  fix : Fix w (w.heap.size + 1 + 1 + 1) P A n c s W
  loop : W.heap[w.heap.size + 6 + 1]? = some (.loop rec)
  tried : Boxed W (w.heap.size + 1) 35 (.int .u64 (T : Int))
  res : Boxed W (w.heap.size + 1 + 1) 3 (.int .i64 0)
  no : noneIn (free T) P.names (P.cand s l) k
theorem PickJ.later {w W W' : World} {rec : Loop} {P : PlanV} {A : Option Addr} {n c : Nat} {s : Int} {l : List UInt8} {T k : Nat} (h : PickJ w rec P A n c s l T k W) (hb : Below W.heap.size W W') : PickJ w rec P A n c s l T k W' := by
  obtain ⟨h1, h2, h3, h4, h5⟩ := h
  exact ⟨h1.later hb, (hb.block _ (Array.getElem?_eq_some_iff.1 h2).1).trans h2, boxed_later h3 hb, boxed_later h4 hb, h5⟩
theorem PickJ.skip {w W : World} {rec : Loop} {P : PlanV} {A : Option Addr} {n c : Nat} {s : Int} {l : List UInt8} {T k : Nat} {x : Int} (h : PickJ w rec P A n c s l T k W) (hx : (P.cand s l)[k]? = some x) (hn : P.names x = false) : PickJ w rec P A n c s l T (k + 1) W := by
  obtain ⟨h1, h2, h3, h4, h5⟩ := h
  exact ⟨h1, h2, h3, h4, none_skip h5 hx hn⟩
/-- Behind the round that left. -/
structure PickS (w : World) (rec : Loop) (P : PlanV) (A : Option Addr) (n c : Nat) (s : Int) (l : List UInt8) (T : Nat) (W : World) : Prop where
  fix : Fix w (w.heap.size + 1 + 1 + 1) P A n c s W
  loop : W.heap[w.heap.size + 6 + 1]? = some (.loop { rec with state := .done, pending := some .ret })
  res : Boxed W (w.heap.size + 1 + 1) 3 (.int .i64 (pickL (free T) P.names (P.cand s l)))
set_option maxRecDepth 100000 in
set_option maxHeartbeats 4000000 in
theorem routePick (P : PlanV) (A : Option Addr) (n c : Nat) (l : List UInt8) (s : Int) (T : Nat) (hT : T < 18446744073709551616) (w : World) (hw : 0 < w.heap.size) (ht : Four w) (hr : BytesAt w w.heap.size A n l) (hn : n ≤ 140737488351232) :
    Calls Tryd.prog 47 #[P.val, .slice A n c, .int .i64 s, .int .u64 (T : Int)] w fun e w' => e = .returned (.int .i64 (pickL (free T) P.names (P.cand s l))) ∧ Below w.heap.size w w' := by
  have HR := Lib.hid hr
  have HT := Lib.hid ht
  clear hr ht
  obtain ⟨R, hR⟩ : ∃ R, R = pickL (free T) P.names (P.cand s l) := ⟨_, rfl⟩
  rw [← hR]
  have HRES := Lib.hid hR
  clear hR
  refine (callsIn_wide (n := 9)).1 ?_
  refine callsIn_of_wp_marks Tryd.func47 rfl trivial ?_ rfl
  simp only [Tryd.ntmps47, List.size_toArray, List.length_cons, List.length_nil, Nat.reduceAdd, Nat.reduceSub, Array.replicate_succ, Array.replicate_zero, List.push_toArray, List.append_toArray, List.nil_append, List.cons_append, PlanV.val]
  obtain ⟨p0, p1, p2, p3, p4, p5, p6, p7, p8, p9, pA, pn, pc, cA, cn, cc⟩ := P
  simp only [PlanV.cells]
  gi_wp2
  refine ⟨trivial, ?_⟩
  refine (callsIn_wide.2 (orderSeq ⟨p0, p1, p2, p3, p4, p5, p6, p7, p8, p9, pA, pn, pc, cA, cn, cc⟩ A n c s _)).mono ?_
  rintro e w' ⟨rfl, rfl⟩
  obtain ⟨y2, y3, y4, bW1, z1⟩ := seq_facts (((w.alloc (.cells #[.int .i64 p0, .int .i64 p1, .int .i64 p2, .int .i64 p3, .int .i64 p4, .int .i64 p5, .int .i64 p6, .int .i64 p7, .int .u64 p8, .int .u64 p9, .slice pA pn pc, .slice cA cn cc] 39)).alloc (.cells #[.int .u64 (T : Int)] 35)).alloc (.cells #[.int .i64 0] 3)) ⟨p0, p1, p2, p3, p4, p5, p6, p7, p8, p9, pA, pn, pc, cA, cn, cc⟩ A n c s
  have y1 := (Boxed.new (w.alloc (.cells #[.int .i64 p0, .int .i64 p1, .int .i64 p2, .int .i64 p3, .int .i64 p4, .int .i64 p5, .int .i64 p6, .int .i64 p7, .int .u64 p8, .int .u64 p9, .slice pA pn pc, .slice cA cn cc] 39)) 35 (.int .u64 (T : Int))).alloc (.cells #[.int .i64 0] 3)
  have y0 := Boxed.new ((w.alloc (.cells #[.int .i64 p0, .int .i64 p1, .int .i64 p2, .int .i64 p3, .int .i64 p4, .int .i64 p5, .int .i64 p6, .int .i64 p7, .int .u64 p8, .int .u64 p9, .slice pA pn pc, .slice cA cn cc] 39)).alloc (.cells #[.int .u64 (T : Int)] 35)) 3 (.int .i64 0)
  have bw1 : Below w.heap.size w (((w.alloc (.cells #[.int .i64 p0, .int .i64 p1, .int .i64 p2, .int .i64 p3, .int .i64 p4, .int .i64 p5, .int .i64 p6, .int .i64 p7, .int .u64 p8, .int .u64 p9, .slice pA pn pc, .slice cA cn cc] 39)).alloc (.cells #[.int .u64 (T : Int)] 35)).alloc (.cells #[.int .i64 0] 3)) := (((Below.refl _ w).alloc (Nat.le_refl _) _).alloc (by simp) _).alloc (by simp; omega) _
  generalize (⟨p0, p1, p2, p3, p4, p5, p6, p7, p8, p9, pA, pn, pc, cA, cn, cc⟩ : PlanV) = P at *
  have y1' := boxed_later y1 bW1
  have y0' := boxed_later y0 bW1
  have b0 := bw1.trans (bW1.mono bw1.size)
  simp only [World.size_alloc] at y0' y1' y2 y3 y4 z1
  gi_wp2
  generalize seqWorld (((w.alloc (.cells #[.int .i64 p0, .int .i64 p1, .int .i64 p2, .int .i64 p3, .int .i64 p4, .int .i64 p5, .int .i64 p6, .int .i64 p7, .int .u64 p8, .int .u64 p9, .slice pA pn pc, .slice cA cn cc] 39)).alloc (.cells #[.int .u64 (T : Int)] 35)).alloc (.cells #[.int .i64 0] 3)) P A n c s = W0 at *
  clear y1 y0 bw1 bW1
  have z0 : W0.heap.size = w.heap.size + 6 := by rw [z1]
  clear z1
  refine range_enter rfl (by omega) (gf := 83) (lb := #[.pointer (some ⟨w.heap.size + 1 + 1 + 1 + 1 + 1, 0, none⟩), .pointer (some ⟨w.heap.size + 1 + 1 + 1, 0, none⟩), .pointer (some ⟨w.heap.size + 1 + 1 + 1 + 1, 0, none⟩)]) rfl trivial (enters_of Tryd.func83 (by kernel_rfl) rfl) ?_
  intro rec hfn r1 r2 r3 r4 r5 r6
  have hL : ((W0.alloc (.deferred (some []))).alloc (.loop rec)).heap[W0.heap.size + 1]? = some (.loop rec) := by
    have := World.alloc_heap_new (W0.alloc (.deferred (some []))) (.loop rec)
    rwa [World.size_alloc] at this
  have hD : ((W0.alloc (.deferred (some []))).alloc (.loop rec)).heap[W0.heap.size]? = some (.deferred (some [])) := (Below.heap_alloc _ _ _ (by simp)).trans (World.alloc_heap_new W0 _)
  have b1 : Below w.heap.size w ((W0.alloc (.deferred (some []))).alloc (.loop rec)) := (b0.alloc (by omega) _).alloc (by simp; omega) _
  have bW : Below W0.heap.size W0 ((W0.alloc (.deferred (some []))).alloc (.loop rec)) := ((Below.refl _ W0).alloc (Nat.le_refl _) _).alloc (by simp) _
  have hplan := (bW.block _ (Array.getElem?_eq_some_iff.1 y2).1).trans y2
  rw [z0] at hL hD ⊢
  refine (order1 8 (w.heap.size + 6 + 1) w.heap.size (w.heap.size + 1 + 1 + 1 + 1 + 1) (w.heap.size + 1 + 1 + 1) (w.heap.size + 1 + 1 + 1 + 1) P A n c l s hn (PickJ w rec P A n c s l T) (PickS w rec P A n c s l T) ?hJB ?hJL ?hSkip ?hRound _ ?hStart).mono ?hPost
  case hJB => exact fun k W hJ => hJ.fix.seq HR.out hw HT.out
  case hJL => exact fun k W W' h hb => h.later hb
  case hSkip => exact fun k x W hx hnm h => h.skip hx hnm
  case hStart => exact ⟨⟨hplan, boxed_later y3 bW, boxed_later y4 bW, hD, b1⟩, hL, boxed_later y1' bW, boxed_later y0' bW, none_zero _ _ _⟩
  case hPost =>
    rintro e W ⟨⟨v, rfl⟩, hJ⟩
    obtain hJ | hJ := hJ
    · obtain ⟨W4, hW4⟩ : ∃ W4, W4 = W.putObj (w.heap.size + 6 + 1) (.loop { rec with state := .exhausted }) := ⟨_, rfl⟩
      have hrun := run_endLoop (P := Tryd.prog) hJ.loop (by rw [r1]; simp)
      rw [← hW4, r2] at hrun
      refine ⟨none, W4, hrun, ?_⟩
      clear hrun
      obtain ⟨hfix, hloop, k1, k2, hno⟩ := hJ
      have hp := HRES.out.trans (none_all hno (by simp [PlanV.cand]))
      have hg := grownBy_putObj' W (w.heap.size + 6 + 1) (.loop { rec with state := .exhausted })
      rw [← hW4] at hg
      have fix4 := hfix.grown (by omega) hg (fun r e => by cases e; constructor <;> omega)
      have k2' := k2.kept hg (by simp)
      have f1 := k2'.cell
      have z1 := k2'.frozen
      have FIX4 := Lib.hid fix4
      have K2 := Lib.hid k2'
      have HP := Lib.hid hp
      clear hfix hloop k1 k2 hg hW4 fix4 k2' z0 r1 r2 r3 r4 r5 r6 hL hD hplan y0' y1' y2 y3 y4 b0 b1 bW hno hp
      gi_wp2
      have s5 := grownBy_setCell' W4 (w.heap.size + 1 + 1) (.int .i64 (-1))
      have fixV := FIX4.out.grown (by omega) s5 (fun r e => by cases e; constructor <;> omega)
      have resV := K2.out.set (.int .i64 (-1))
      generalize W4.setCell ⟨w.heap.size + 1 + 1, 0, none⟩ (.int .i64 (-1)) = V at *
      have hc5 := (resV.kept (grownBy_putObj' V (w.heap.size + 6) (.deferred none)) (by simp)).cell
      refine ⟨by simp, .inl ⟨_, _, rfl, run_takeDeferred (w := V) fixV.defer, ?_⟩⟩
      refine ⟨.int .i64 (-1), ?_, by rw [HP.out], below_put fixV.low (Nat.le_refl _) (by omega) _⟩
      simp [results, Tryd.f47, go_sem, hc5]
    · obtain ⟨W4, hW4⟩ : ∃ W4, W4 = W.putObj (w.heap.size + 6 + 1) (.loop { rec with state := .exhausted, pending := some .ret }) := ⟨_, rfl⟩
      have hrun := run_endLoop (P := Tryd.prog) hJ.loop (by simp)
      have hrun' : (Instr.endLoop (w.heap.size + 6 + 1)).run Tryd.prog W = .ok (some .ret) W4 := by rw [hW4]; exact hrun
      refine ⟨some .ret, W4, hrun', ?_⟩
      clear hrun hrun'
      obtain ⟨hfix, hloop, k2⟩ := hJ
      rw [← HRES.out] at k2
      have hg := grownBy_putObj' W (w.heap.size + 6 + 1) (.loop { rec with state := .exhausted, pending := some .ret })
      rw [← hW4] at hg
      have fix4 := hfix.grown (by omega) hg (fun r e => by cases e; constructor <;> omega)
      have k2' := k2.kept hg (by simp)
      have FIX4 := Lib.hid fix4
      have K2 := Lib.hid k2'
      clear hfix hloop k2 hg hW4 fix4 k2' z0 r1 r2 r3 r4 r5 r6 hL hD hplan y0' y1' y2 y3 y4 b0 b1 bW
      gi_wp2
      have hc5 := (K2.out.kept (grownBy_putObj' W4 (w.heap.size + 6) (.deferred none)) (by simp)).cell
      refine ⟨by simp, .inl ⟨_, _, rfl, run_takeDeferred (w := W4) FIX4.out.defer, ?_⟩⟩
      refine ⟨.int .i64 R, ?_, rfl, below_put FIX4.out.low (Nat.le_refl _) (by omega) _⟩
      simp [results, Tryd.f47, go_sem, hc5]
  case hRound =>
    intro k x W hx hnm hJ1
    refine round_at hJ1.loop (by rw [r4]; rfl) hfn ?_
    rw [r5, r6, r3, r4]
    have HJ1 := Lib.hid hJ1
    have HX := Lib.hid hx
    have HN := Lib.hid hnm
    have R1 := Lib.hid r1
    have R2 := Lib.hid r2
    have HZ := Lib.hid z0
    clear hJ1 hx hnm z0 r1 r2 r3 r4 r5 r6 hL hD hplan y0' y1' y2 y3 y4 b0 b1 bW
    gi_wp2
    obtain ⟨hfix, hloop, k1, k2, hno⟩ := HJ1.out
    obtain ⟨W2, hW2⟩ : ∃ W2, W2 = W.putObj (w.heap.size + 6 + 1) (.loop { rec with state := .busy }) := ⟨_, rfl⟩
    have hbr := run_beginRound (P := Tryd.prog) hloop R1.out
    rw [← hW2] at hbr
    refine ⟨W2, hbr, ?_⟩
    have hlt6 := (Array.getElem?_eq_some_iff.1 hloop).1
    have hg := grownBy_putObj' W (w.heap.size + 6 + 1) (.loop { rec with state := .busy })
    have hbusy : W2.heap[w.heap.size + 6 + 1]? = some (.loop { rec with state := .busy }) := by rw [hW2]; exact World.putObj_heap_same (by omega)
    rw [← hW2] at hg
    have fix2 := hfix.grown (by omega) hg (fun r e => by cases e; constructor <;> omega)
    have k1' := k1.kept hg (by simp)
    have k2' := k2.kept hg (by simp)
    have hsz2 := hg.size
    clear hfix hloop k1 k2 hbr hg hW2
    have FIX2 := Lib.hid fix2
    have BUSY := Lib.hid hbusy
    have K1 := Lib.hid k1'
    have K2 := Lib.hid k2'
    have f1 := k1'.cell
    have f2 := k2'.cell
    have z2 := k2'.frozen
    have HNO := Lib.hid hno
    clear fix2 hbusy k1' k2' hno
    have f1' : W2.drew.cell? ⟨w.heap.size + 1, 0, none⟩ = some (.int .u64 (T : Int)) := f1
    gi_wp2
    have hx0 : 0 ≤ x := by
      have h := HN.out
      unfold PlanV.names named at h
      rw [Bool.and_eq_true] at h
      exact of_decide_eq_true h.1
    have hleft : free T x = true → ∀ V : World, V = (W2.setCell ⟨w.heap.size + 1 + 1, 0, none⟩ (.int .i64 x)).drew → ∃ v w', (Instr.endRound (w.heap.size + 6 + 1) (some .ret)).run Tryd.prog V = .ok v w' ∧ (Ending.returned v = .returned (.bool true) ∧ PickJ w rec P A n c s l T (k + 1) w' ∨ Ending.returned v = .returned (.bool false) ∧ PickS w rec P A n c s l T w') := by
      intro hf V hV
      have s5 := grownBy_setCell' W2 (w.heap.size + 1 + 1) (.int .i64 x)
      have hd := (Below.refl (W2.setCell ⟨w.heap.size + 1 + 1, 0, none⟩ (.int .i64 x)).heap.size (W2.setCell ⟨w.heap.size + 1 + 1, 0, none⟩ (.int .i64 x))).drew
      rw [← hV] at hd
      have fixV := (FIX2.out.grown (by omega) s5 (fun r e => by cases e; constructor <;> omega)).later hd
      have busyV := (hd.block _ (Array.getElem?_eq_some_iff.1 (keep_block s5 BUSY.out (fun r e => by cases e; omega))).1).trans (keep_block s5 BUSY.out (fun r e => by cases e; omega))
      have resV := boxed_later (K2.out.set (.int .i64 x)) hd
      refine ⟨_, _, run_endRound (P := Tryd.prog) (some .ret) busyV, .inr ⟨rfl, ?_⟩⟩
      have hg5 := grownBy_putObj' V (w.heap.size + 6 + 1) (.loop { ({ rec with state := .busy } : Loop) with state := if (some Code.ret).isNone then .ready else .done, pending := some .ret })
      refine ⟨fixV.grown (by omega) hg5 (fun r e => by cases e; constructor <;> omega), World.putObj_heap_same (Array.getElem?_eq_some_iff.1 busyV).1, ?_⟩
      rw [picked HNO.out HX.out HN.out hf]
      exact resV.kept hg5 (by simp)
    have HLEFT := Lib.hid hleft
    clear hleft
    by_cases h63 : 63 < x
    · refine region_round_still (by kernel_rfl) (fun ⟨_, _, h⟩ => h) (by kernel_rfl) (by kernel_rfl) ?_
      repeat still_step
      refine wpStill_nil ?_
      gi_wp2
      exact HLEFT.out (free_great _ _ h63) _ rfl
    · obtain ⟨m, rfl⟩ := Int.eq_ofNat_of_zero_le hx0
      have hm : m ≤ 63 := by omega
      obtain ⟨M, B, q1, q2, q3⟩ := free_bit T m hT hm
      have q1' : IntKind.u64.wrap (1 * 2 ^ ((m : Int).toNat)) = (M : Int) := by rw [Int.toNat_natCast, Int.one_mul]; exact q1
      by_cases hB : B = 0
      · subst hB
        have HF := Lib.hid (show free T m = true by rw [← q3]; rfl)
        clear q3
        refine region_round_still (by kernel_rfl) (fun ⟨_, _, h⟩ => h) (by kernel_rfl) (by kernel_rfl) ?_
        repeat still_step
        refine wpStill_nil ?_
        gi_wp2
        exact HLEFT.out HF.out _ rfl
      · have HF := Lib.hid (show free T m = false by rw [← q3]; exact decide_eq_false hB)
        clear q3
        refine region_round_still (by kernel_rfl) (fun ⟨_, _, h⟩ => h) (by kernel_rfl) (by kernel_rfl) ?_
        repeat still_step
        refine wpStill_nil ?_
        gi_wp2
        have hd := (Below.refl W2.heap.size W2).drew
        have fixV := FIX2.out.later hd
        have busyV := (hd.block _ (Array.getElem?_eq_some_iff.1 BUSY.out).1).trans BUSY.out
        have triedV := boxed_later K1.out hd
        have resV := boxed_later K2.out hd
        generalize W2.drew = V at *
        refine ⟨_, _, end_round busyV R1.out R2.out, .inl ⟨rfl, ?_⟩⟩
        have hg5 := grownBy_putObj' V (w.heap.size + 6 + 1) (.loop rec)
        exact ⟨fixV.grown (by omega) hg5 (fun r e => by cases e; constructor <;> omega), World.putObj_heap_same (Array.getElem?_eq_some_iff.1 busyV).1, triedV.kept hg5 (by simp), resV.kept hg5 (by simp), none_next HNO.out HX.out HF.out⟩
end Go.Proofs.YtddcfgbembjbhaaDoor
