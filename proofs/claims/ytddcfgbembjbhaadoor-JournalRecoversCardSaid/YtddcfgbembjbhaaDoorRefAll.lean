/- Frames: all of them: the document's All. -/
import Derived.Test.YtddcfgbembjbhaaDoorColl
import Derived.Test.YtddcfgbembjbhaaDoorWFrameBack
namespace Go.Proofs.YtddcfgbembjbhaaDoor
open Go.RowKit
set_option linter.unusedVariables false

def AllGot (w : World) (l : List UInt8) (e : Ending) (w' : World) : Prop :=
  ∃ AK nK cK AB nB cB, e = .returned (.tuple #[.slice AK nK cK, .slice AB nB cB, .int .i64 (flen (frames l) : Int)]) ∧ Coll w' w.heap.size AK nK cK ((frames l).map (·.1)) AB nB cB ((frames l).map (·.2)) ∧ Below w.heap.size w w'
/-- How far it has come: the frames 'pre', up to place i. -/
def Come (l : List UInt8) (pre : List (UInt8 × List UInt8)) (i : Nat) : Prop := frames l = pre ++ frames (l.drop i) ∧ i = flen pre ∧ i ≤ l.length
theorem Come.start (l : List UInt8) : Come l [] 0 := ⟨by simp, rfl, Nat.zero_le _⟩
theorem Come.last {l : List UInt8} {pre : List (UInt8 × List UInt8)} {i : Nat} (h : Come l pre i) (hE : getE (l.drop i) ≠ 0) : frames l = pre ∧ flen (frames l) = i := by
  have := h.1
  rw [frames_no hE, List.append_nil] at this
  rw [this]
  exact ⟨rfl, h.2.1.symm⟩
theorem Come.next {l : List UInt8} {pre : List (UInt8 × List UInt8)} {i : Nat} (h : Come l pre i) (hE : getE (l.drop i) = 0) :
    Come l (pre ++ [(byteAt (l.drop i) 1, ((l.drop i).drop 4).take (num2 (l.drop i)))]) (i + num2 (l.drop i) + 8) := by
  obtain ⟨_, hlen⟩ := get_put hE
  have hs := getE_split hE
  refine ⟨?_, ?_, ?_⟩
  · rw [h.1, frames_yes hE, show (l.drop i).drop (num2 (l.drop i) + 8) = l.drop (i + num2 (l.drop i) + 8) by rw [List.drop_drop]; rfl, List.append_assoc]
    rfl
  · rw [flen_append, ← h.2.1, flen_cons, flen_nil, hlen]
    omega
  · have := hs.2.2.2.2.1
    rw [List.length_drop] at this
    omega
theorem flen_count (fs : List (UInt8 × List UInt8)) : 8 * fs.length ≤ flen fs := by
  induction fs with
  | nil => exact Nat.zero_le _
  | cons f fs ih => rw [flen_cons, List.length_cons]; omega
theorem Come.count {l : List UInt8} {pre : List (UInt8 × List UInt8)} {i : Nat} (h : Come l pre i) : 8 * pre.length ≤ l.length := by
  have := flen_count pre
  have := h.2.1
  have := h.2.2
  omega
theorem Coll.count {w : World} {base nK cK nB cB : Nat} {AK AB : Option Addr} {ks : List UInt8} {bs : List (List UInt8)} (h : Coll w base AK nK cK ks AB nB cB bs) : nK = ks.length ∧ nB = bs.length := by
  obtain ⟨hk, vs, hv, he⟩ := h
  exact ⟨hk.len.symm, by rw [← he.1, hv.len]⟩
theorem open_coll {w : World} {base nK cK nB cB : Nat} {AK AB : Option Addr} {ks : List UInt8} {bs : List (List UInt8)} (h : Coll w base AK nK cK ks AB nB cB bs) : ∃ vs, OwnB w base AK nK cK ks ∧ OwnV w base AB nB cB vs ∧ Each w base (AK.map (·.block)) vs bs := by
  obtain ⟨hk, vs, hv, he⟩ := h
  exact ⟨vs, hk, hv, he⟩
theorem below_grownV {w0 w w' : World} {base n c : Nat} {A : Option Addr} {vs : List Value} (hb : Below base w0 w) (hs : base ≤ w.heap.size) (ho : OwnV w base A n c vs) (hg : w.grownBy w' (A.map (·.block))) : Below base w0 w' :=
  hb.grown hg hs fun k hk => by
    rcases ho.form with ⟨rfl, _⟩ | ⟨g, rfl, hgb, _⟩
    · cases hk
    · cases hk; exact hgb
theorem getAll_at {l : List UInt8} {i : Nat} (hi : i ≤ l.length) (h : getE (l.drop i) = 0) : getAll l (i : Int) = (byteAt (l.drop i) 1, ((l.drop i).drop 4).take (num2 (l.drop i)), ((i + num2 (l.drop i) + 8 : Nat) : Int), 0) := by
  unfold getAll
  rw [if_neg (by omega), Int.toNat_natCast]
  unfold getK getB getN
  rw [h, if_pos rfl, if_pos rfl, if_pos rfl]
  have : (i : Int) + (num2 (l.drop i) : Int) + 8 = ((i + num2 (l.drop i) + 8 : Nat) : Int) := by omega
  rw [this]
theorem results_tmp3' {fn : Func} {t u v : Tmp} (h : fn.results = #[.tmp t, .tmp u, .tmp v]) (tmps : Array Value) (P : Program) (w : World) :
    (results fn tmps).run P w = .ok (.tuple #[tmps.getD t undef, tmps.getD u undef, tmps.getD v undef]) w := by
  simp [results, h]
set_option maxRecDepth 100000 in
set_option maxHeartbeats 4000000 in
theorem refAll (A : Option Addr) (n c : Nat) (l : List UInt8) (B : Nat) (w : World) (hr : BytesAt w B A n l) (hB : B ≤ w.heap.size) (hn : n ≤ 40000000000000) (hc : n ≤ c) :
    Calls Tryd.prog 52 #[.slice A n c] w (AllGot w l) := by
  have HL := Lib.hid hr.1
  have HR := Lib.hid hr
  clear hr
  go_enter Tryd.func52, Tryd.ntmps52
  go_wp2
  go_loopw [5, 6, 7] (fun x5 x6 x7 wr => ∃ (pre : List (UInt8 × List UInt8)) (AK : Option Addr) (nK cK : Nat) (AB : Option Addr) (nB cB i : Nat), x5 = .slice AK nK cK ∧ x6 = .slice AB nB cB ∧ x7 = .int .i64 (i : Int) ∧
      Coll wr w.heap.size AK nK cK (pre.map (·.1)) AB nB cB (pre.map (·.2)) ∧ Come l pre i ∧ Below w.heap.size w wr) (fun _ _ x7 _ => n - (intOf x7).toNat)
  case atStart => exact ⟨[], none, 0, 0, none, 0, 0, 0, rfl, rfl, rfl, Coll.nil _ _, Come.start l, Below.refl _ _⟩
  case round =>
    obtain ⟨pre, AK, nK, cK, AB, nB, cB, i, rfl, rfl, rfl, hcoll, hcome, hb⟩ := hrel
    have hil := hcome.2.2
    have hin : i ≤ n := by rw [← HL.out]; exact hil
    have hcnt := hcome.count
    rw [HL.out] at hcnt
    have hK8 : 8 * nK ≤ n := by have := hcoll.count.1; simp at this; omega
    have hB8 : 8 * nB ≤ n := by have := hcoll.count.2; simp at this; omega
    clear hcnt
    have hsz := hb.size
    have HC := Lib.hid hcoll
    have HM := Lib.hid hcome
    have HB := Lib.hid hb
    clear hcoll hcome hb
    by_cases hE : getE (l.drop i) = 0
    rotate_left
    · have hg := getAll_err (l := l) (i := i) hil rfl hE
      obtain ⟨e1, e2⟩ := HM.out.last hE
      have HE1 := Lib.hid e1
      have HE2 := Lib.hid e2
      have hEn : (getE (l.drop i) != 0) = true := by simpa using hE
      have QG : Hid (Calls Tryd.prog 50 #[.slice A n c, .int .i64 (i : Int)] wr (Got wr l i)) := Lib.hid (refGet A n c l i B wr (HR.out.below (HB.out.mono hB)) (by omega) (by omega) hc)
      have HG := Lib.hid hg
      generalize getE (l.drop i) = E at *
      clear hE hg e1 e2
      go_wp2_with fail
      refine QG.out.mono ?_
      rintro e w2 ⟨A2, n2, c2, rfl, ho2, hb2⟩
      rw [HG.out]
      have HB2 := Lib.hid hb2
      clear ho2 hb2
      go_wp2
      refine bodyPost_ret (results_tmp3' rfl _ _ _) rfl ?_
      refine ⟨AK, nK, cK, AB, nB, cB, by rw [HE2.out]; rfl, ?_, HB.out.trans (HB2.out.mono hsz)⟩
      rw [HE1.out]
      exact HC.out.later HB2.out
    · have hg := getAll_at hil hE
      have hnx := HM.out.next hE
      have hnil := hnx.2.2
      rw [HL.out] at hnil
      have HX := Lib.hid hnx
      have QG : Hid (Calls Tryd.prog 50 #[.slice A n c, .int .i64 (i : Int)] wr (Got wr l i)) := Lib.hid (refGet A n c l i B wr (HR.out.below (HB.out.mono hB)) (by omega) (by omega) hc)
      have HG := Lib.hid hg
      clear hg hnx hE
      generalize hI : i + num2 (l.drop i) + 8 = I at *
      have hIi : i + 8 ≤ I := by omega
      clear hI
      generalize ((l.drop i).drop 4).take (num2 (l.drop i)) = body at *
      generalize byteAt (l.drop i) 1 = k at *
      go_wp2_with fail
      refine QG.out.mono ?_
      rintro e w2 ⟨A2, n2, c2, rfl, ho2, hb2⟩
      rw [HG.out] at ho2 ⊢
      have hs2 := hb2.size
      have C2 := HC.out.later hb2
      have b2 := HB.out.trans (hb2.mono hsz)
      have C3 := C2.alloc (.cells #[.int .u8 (k.toNat : Int)] 5)
      have b3 := b2.alloc b2.size (.cells #[.int .u8 (k.toNat : Int)] 5)
      have o3 := ho2.alloc (.cells #[.int .u8 (k.toNat : Int)] 5)
      have hz3 : w2.heap.size < (w2.alloc (.cells #[.int .u8 (k.toNat : Int)] 5)).heap.size := by simp
      have l3 := OwnB.lit w2 w.heap.size w2.heap.size 1 #[.int .u8 (k.toNat : Int)] [k] rfl b2.size rfl rfl (by unfold maxLen; omega)
      have hne := apart_new HC.out.kinds ho2 (Nat.le_refl _)
      have HNE := Lib.hid hne
      clear hne
      have HC3 := Lib.hid C3
      have HB3 := Lib.hid b3
      have HO3 := Lib.hid o3
      have HL3 := Lib.hid l3
      have HZ3 := Lib.hid hz3
      clear ho2 hb2 C2 b2 C3 b3 o3 l3 hz3
      go_wp2_with (first
        | (at_builtin; refine wpList_append_bytes rfl (.tmp 25) (.tmp 27) rfl rfl HC3.out.kinds rfl HL3.out.bytes (by omega) HB3.out.size ?_; intro A4 c4 w4 ho4 hg4 hat4; obtain ⟨vs5, k5⟩ := open_coll ((HC3.out.kind ho4 hg4 hat4).alloc (.cells #[.slice A2 n2 c2] 23)); have K5 := Lib.hid k5; have B4 := Lib.hid (below_grown HB3.out HB3.out.size HC3.out.kinds hg4); have O4 := Lib.hid (HO3.out.grown hg4 HNE.out); have N4 := Lib.hid (apart_after HO3.out HNE.out hat4); have B5 := Lib.hid (B4.out.alloc B4.out.size (.cells #[.slice A2 n2 c2] 23)); have F5 := Lib.hid (cell_one_new w4 (.slice A2 n2 c2) 23 0 _ rfl); clear ho4 hg4 hat4 k5)
        | (at_builtin; refine wpList_append_list rfl (.tmp 29) (.tmp 31) rfl rfl K5.out.2.1 rfl F5.out (by omega) B5.out.size ?_; intro A6 c6 w6 ho6 hg6 hat6; have C6 := Lib.hid (coll_body K5.out.1 K5.out.2.1 K5.out.2.2 ((O4.out.alloc _).lower hsz) N4.out ho6 hg6); have B6 := Lib.hid (below_grownV B5.out B5.out.size K5.out.2.1 hg6); clear ho6 hg6 hat6))
      go_roundw
      case rel =>
        refine ⟨pre ++ [(k, body)], A4, nK + 1, c4, A6, nB + 1, c6, I, rfl, rfl, rfl, ?_, HX.out, B6.out⟩
        rw [List.map_append, List.map_append]
        exact C6.out
      case measure => simp [intOf]; omega
end Go.Proofs.YtddcfgbembjbhaaDoor
