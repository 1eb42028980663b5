/- Frames: what they are; the program's Put and the document's, walked. -/
import Derived.Test.YtddcfgbembjbhaaDoorCrc
import Derived.Test.YtddcfgbembjbhaaDoorCrcWord
import Derived.Test.YtddcfgbembjbhaaDoorOwn2
namespace Go.Proofs.YtddcfgbembjbhaaDoor
open Go.RowKit
set_option linter.unusedVariables false

/-- What stands behind a frame's mark and ahead of its sum. -/
def fmid (k : UInt8) (l : List UInt8) : List UInt8 := k :: UInt8.ofNat (l.length / 256) :: UInt8.ofNat l.length :: l
def fsum (k : UInt8) (l : List UInt8) : BitVec 32 := Crc.add 0 (fmid k l)
def big (s : BitVec 32) : List UInt8 := [byteOf s.toNat 3, byteOf s.toNat 2, byteOf s.toNat 1, byteOf s.toNat 0]
def fput (k : UInt8) (l : List UInt8) : List UInt8 := 0xf7 :: fmid k l ++ big (fsum k l)
theorem fput_len (k : UInt8) (l : List UInt8) : (fput k l).length = l.length + 8 := by simp [fput, fmid, big]
def putE (l : List UInt8) : Int := if 8192 < l.length then 2 else 0
def putB (k : UInt8) (l : List UInt8) : List UInt8 := if 8192 < l.length then [] else fput k l
def Put (w : World) (k : UInt8) (l : List UInt8) (e : Ending) (w' : World) : Prop :=
  ∃ A n c, e = .returned (.tuple #[.slice A n c, .int .i64 (putE l)]) ∧ OwnB w' w.heap.size A n c (putB k l) ∧ Below w.heap.size w w'
theorem hi_byte (n : Nat) (h : n ≤ 8192) : IntKind.u8.wrap ((n : Int) / 256) = ((UInt8.ofNat (n / 256)).toNat : Int) := by
  rw [IntKind.wrap_u8]
  simp
theorem lo_byte (n : Nat) : IntKind.u8.wrap (n : Int) = ((UInt8.ofNat n).toNat : Int) := by
  rw [IntKind.wrap_u8]
  simp
theorem BytesAt.win {w : World} {B n g o : Nat} {l : List UInt8} (h : BytesAt w B (some ⟨g, o, none⟩) n l) (i m : Nat) (him : i + m ≤ n) : BytesAt w B (some ⟨g, o + i, none⟩) m ((l.drop i).take m) := by
  have hl := h.1
  refine ⟨by simp; omega, fun hm => ?_⟩
  obtain ⟨b, o', e, hb, hc⟩ := h.2 (by omega)
  injection e with e
  injection e with e1 e2
  subst e1 e2
  refine ⟨g, o + i, rfl, hb, fun j hj => ?_⟩
  simp at hj
  rw [List.getElem_take, List.getElem_drop]
  have := hc (i + j) (by omega)
  rwa [show o + (i + j) = o + i + j by omega] at this
theorem sum_byte (s : BitVec 32) (k : Nat) : IntKind.u8.wrap ((s.toNat : Int) / ((2 ^ (8 * k) : Nat) : Int)) = ((byteOf s.toNat k).toNat : Int) := by
  rw [IntKind.wrap_u8, byteOf_toNat]
  omega
theorem sum_byte3 (s : BitVec 32) : IntKind.u8.wrap ((s.toNat : Int) / 16777216) = ((byteOf s.toNat 3).toNat : Int) := sum_byte s 3
theorem sum_byte2 (s : BitVec 32) : IntKind.u8.wrap ((s.toNat : Int) / 65536) = ((byteOf s.toNat 2).toNat : Int) := sum_byte s 2
theorem sum_byte1 (s : BitVec 32) : IntKind.u8.wrap ((s.toNat : Int) / 256) = ((byteOf s.toNat 1).toNat : Int) := sum_byte s 1
theorem sum_byte0 (s : BitVec 32) : IntKind.u8.wrap (s.toNat : Int) = ((byteOf s.toNat 0).toNat : Int) := by
  have := sum_byte s 0
  simpa using this
set_option maxRecDepth 100000 in
set_option maxHeartbeats 1000000 in
theorem framePut (k : UInt8) (A : Option Addr) (n c : Nat) (l : List UInt8) (B : Nat) (w : World) (hw : 0 < w.heap.size) (ht : Four w) (hr : BytesAt w B A n l) (hB : B ≤ w.heap.size) (hn : n ≤ 140737488351232) :
    Calls Tryd.prog 40 #[.int .u8 (k.toNat : Int), .slice A n c] w (Put w k l) := by
  have hl := hr.1
  by_cases h8 : 8192 < n
  · have e1 : putE l = 2 := by unfold putE; rw [if_pos (by omega)]
    have e2 : putB k l = [] := by unfold putB; rw [if_pos (by omega)]
    have HR := Lib.hid hr
    have HE := Lib.hid (And.intro e1 e2)
    clear hr hl e1 e2
    go_enter Tryd.func40, Tryd.ntmps40
    go_wp2
    go_ret2
    exact ⟨none, 0, 0, by rw [HE.out.1]; rfl, by rw [HE.out.2]; exact OwnB.nil _ _, Below.refl _ _⟩
  · have e1 : putE l = 0 := by unfold putE; rw [if_neg (by omega)]
    have e2 : putB k l = fput k l := by unfold putB; rw [if_neg (by omega)]
    have hhi := hi_byte n (by omega)
    have hlo := lo_byte n
    generalize hH : UInt8.ofNat (n / 256) = hi at *
    generalize hL : UInt8.ofNat n = lo at *
    have HR := Lib.hid hr
    have HE := Lib.hid (And.intro e1 e2)
    have HL := Lib.hid hl
    clear hr hl e1 e2
    have HM : Hid (((([0xf7, k, hi, lo] ++ l).drop 1).take (3 + n)) = fmid k l) := Lib.hid (by rw [← hH, ← hL, ← HL.out]; unfold fmid; simp [Nat.add_comm 3])
    have hlit := OwnB.lit w w.heap.size w.heap.size 4 #[.int .u8 247, .int .u8 (k.toNat : Int), .int .u8 (hi.toNat : Int), .int .u8 (lo.toNat : Int)] [0xf7, k, hi, lo] rfl (Nat.le_refl _) rfl rfl (by unfold maxLen; omega)
    have b1 := (Below.refl w.heap.size w).alloc (Nat.le_refl _) (.cells #[.int .u8 247, .int .u8 (k.toNat : Int), .int .u8 (hi.toNat : Int), .int .u8 (lo.toNat : Int)] 5)
    have hsrc := HR.out.below (b1.mono hB)
    go_enter Tryd.func40, Tryd.ntmps40
    go_wp2_with (first
      | (at_builtin; refine wpList_append_bytes rfl (.tmp 20) (.tmp 21) rfl rfl hlit rfl hsrc (by omega) (by simp) ?_; intro A2 c2 w2 hown hg hat; have hb2 : Below w.heap.size w w2 := b1.grown hg (by simp) (by intro k hk; simp at hk; omega); obtain ⟨g, hA2, hgb, hgs, hgc⟩ := hown.form_pos (by omega); subst hA2; have hmid := hown.bytes.win 1 (3 + n) (by omega); rw [HM.out] at hmid; have QC := Lib.hid (crcSum (some ⟨g, 1, none⟩) (3 + n) (c2 - 1) (fmid k l) w2.heap.size w2 hmid (by omega) (ht.below hb2 hw)))
      | (go_at_call 30; have QCo := QC.out; clear QC; refine QCo.mono ?_; clear QCo; rintro e w' ⟨rfl, rfl⟩))
    have HO := Lib.hid hown
    have HB := Lib.hid hb2
    have hs : Crc.add (0#32) (fmid k l) = fsum k l := rfl
    rw [hs]
    have c3 := sum_byte3 (fsum k l)
    have c2' := sum_byte2 (fsum k l)
    have c1 := sum_byte1 (fsum k l)
    have c0 := sum_byte0 (fsum k l)
    have HF : Hid ([0xf7, k, hi, lo] ++ l ++ big (fsum k l) = fput k l) := Lib.hid (by rw [← hH, ← hL, ← HL.out]; rfl)
    clear hown hg hat hb2 hlit b1 hsrc hmid hs
    unfold big at HF
    generalize fsum k l = s at *
    generalize byteOf s.toNat 3 = y3 at *
    generalize byteOf s.toNat 2 = y2 at *
    generalize byteOf s.toNat 1 = y1 at *
    generalize byteOf s.toNat 0 = y0 at *
    go_loopw [7, 9] (fun t x wr => ∃ (j : Nat) (A7 : Option Addr) (n7 c7 : Nat), j ≤ 4 ∧ n7 = 4 + n + j ∧ t = .slice A7 n7 c7 ∧ x = .int .i64 (24 - 8 * (j : Int)) ∧ OwnB wr w.heap.size A7 n7 c7 ([0xf7, k, hi, lo] ++ l ++ [y3, y2, y1, y0].take j) ∧ Below w.heap.size w wr) (fun _ x _ => (intOf x + 8).toNat)
    case atStart => exact ⟨0, _, _, _, by omega, rfl, rfl, rfl, by simpa using HO.out, HB.out⟩
    case round =>
      obtain ⟨j, A7, n7, c7, hj, hn7', rfl, rfl, ho, hb⟩ := hrel
      have hn7 := Lib.hid hn7'
      have hnb : n7 ≤ 10000 := by omega
      clear hn7'
      rcases j with _ | _ | _ | _ | j
      · have hbl := OwnB.lit wr w.heap.size wr.heap.size 1 #[.int .u8 (y3.toNat : Int)] [y3] rfl hb.size rfl rfl (by unfold maxLen; omega)
        have hoa := ho.alloc (.cells #[.int .u8 (y3.toNat : Int)] 5)
        have hbb := hb.alloc hb.size (.cells #[.int .u8 (y3.toNat : Int)] 5)
        have hbs : w.heap.size ≤ (wr.alloc (.cells #[.int .u8 (y3.toNat : Int)] 5)).heap.size := hbb.size
        have hblk : ∀ k, A7.map (·.block) = some k → w.heap.size ≤ k := fun k hk => by
          rcases ho.form with ⟨rfl, _⟩ | ⟨g', rfl, hg', _⟩
          · cases hk
          · cases hk; exact hg'
        clear ho
        go_wp2_with (at_builtin; refine wpList_append_bytes rfl (.tmp 30) (.tmp 35) rfl rfl hoa rfl hbl.bytes (by omega) hbs ?_; intro A8 c8 w8 hown8 hg8 hat8)
        go_roundw
        case rel => exact ⟨1, A8, n7 + 1, c8, by omega, by have := hn7.out; omega, rfl, by go_num, by simpa using hown8, hbb.grown hg8 hbs (fun k hk => hblk k hk)⟩
        case measure => simp [intOf]
      · have hbl := OwnB.lit wr w.heap.size wr.heap.size 1 #[.int .u8 (y2.toNat : Int)] [y2] rfl hb.size rfl rfl (by unfold maxLen; omega)
        have hoa := ho.alloc (.cells #[.int .u8 (y2.toNat : Int)] 5)
        have hbb := hb.alloc hb.size (.cells #[.int .u8 (y2.toNat : Int)] 5)
        have hbs : w.heap.size ≤ (wr.alloc (.cells #[.int .u8 (y2.toNat : Int)] 5)).heap.size := hbb.size
        have hblk : ∀ k, A7.map (·.block) = some k → w.heap.size ≤ k := fun k hk => by
          rcases ho.form with ⟨rfl, _⟩ | ⟨g', rfl, hg', _⟩
          · cases hk
          · cases hk; exact hg'
        clear ho
        go_wp2_with (at_builtin; refine wpList_append_bytes rfl (.tmp 30) (.tmp 35) rfl rfl hoa rfl hbl.bytes (by omega) hbs ?_; intro A8 c8 w8 hown8 hg8 hat8)
        go_roundw
        case rel => exact ⟨2, A8, n7 + 1, c8, by omega, by have := hn7.out; omega, rfl, by go_num, by simpa using hown8, hbb.grown hg8 hbs (fun k hk => hblk k hk)⟩
        case measure => simp [intOf]
      · have hbl := OwnB.lit wr w.heap.size wr.heap.size 1 #[.int .u8 (y1.toNat : Int)] [y1] rfl hb.size rfl rfl (by unfold maxLen; omega)
        have hoa := ho.alloc (.cells #[.int .u8 (y1.toNat : Int)] 5)
        have hbb := hb.alloc hb.size (.cells #[.int .u8 (y1.toNat : Int)] 5)
        have hbs : w.heap.size ≤ (wr.alloc (.cells #[.int .u8 (y1.toNat : Int)] 5)).heap.size := hbb.size
        have hblk : ∀ k, A7.map (·.block) = some k → w.heap.size ≤ k := fun k hk => by
          rcases ho.form with ⟨rfl, _⟩ | ⟨g', rfl, hg', _⟩
          · cases hk
          · cases hk; exact hg'
        clear ho
        go_wp2_with (at_builtin; refine wpList_append_bytes rfl (.tmp 30) (.tmp 35) rfl rfl hoa rfl hbl.bytes (by omega) hbs ?_; intro A8 c8 w8 hown8 hg8 hat8)
        go_roundw
        case rel => exact ⟨3, A8, n7 + 1, c8, by omega, by have := hn7.out; omega, rfl, by go_num, by simpa using hown8, hbb.grown hg8 hbs (fun k hk => hblk k hk)⟩
        case measure => simp [intOf]
      · have hbl := OwnB.lit wr w.heap.size wr.heap.size 1 #[.int .u8 (y0.toNat : Int)] [y0] rfl hb.size rfl rfl (by unfold maxLen; omega)
        have hoa := ho.alloc (.cells #[.int .u8 (y0.toNat : Int)] 5)
        have hbb := hb.alloc hb.size (.cells #[.int .u8 (y0.toNat : Int)] 5)
        have hbs : w.heap.size ≤ (wr.alloc (.cells #[.int .u8 (y0.toNat : Int)] 5)).heap.size := hbb.size
        have hblk : ∀ k, A7.map (·.block) = some k → w.heap.size ≤ k := fun k hk => by
          rcases ho.form with ⟨rfl, _⟩ | ⟨g', rfl, hg', _⟩
          · cases hk
          · cases hk; exact hg'
        clear ho
        go_wp2_with (at_builtin; refine wpList_append_bytes rfl (.tmp 30) (.tmp 35) rfl rfl hoa rfl hbl.bytes (by omega) hbs ?_; intro A8 c8 w8 hown8 hg8 hat8)
        go_roundw
        case rel => exact ⟨4, A8, n7 + 1, c8, by omega, by have := hn7.out; omega, rfl, by go_num, by simpa using hown8, hbb.grown hg8 hbs (fun k hk => hblk k hk)⟩
        case measure => simp [intOf]
      · obtain rfl : j = 0 := by omega
        have ho2 := Lib.hid ho
        clear ho
        go_wp2
        go_ret2
        refine ⟨A7, n7, c7, by rw [HE.out.1]; rfl, ?_, hb⟩
        rw [HE.out.2, ← HF.out]
        exact ho2.out
set_option maxRecDepth 100000 in
set_option maxHeartbeats 1000000 in
theorem refPut (k : UInt8) (A : Option Addr) (n c : Nat) (l : List UInt8) (B : Nat) (w : World) (hr : BytesAt w B A n l) (hB : B ≤ w.heap.size) (hn : n ≤ 140737488351232) :
    Calls Tryd.prog 41 #[.int .u8 (k.toNat : Int), .slice A n c] w (Put w k l) := by
  have hl := hr.1
  by_cases h8 : 8192 < n
  · have e1 : putE l = 2 := by unfold putE; rw [if_pos (by omega)]
    have e2 : putB k l = [] := by unfold putB; rw [if_pos (by omega)]
    have HR := Lib.hid hr
    have HE := Lib.hid (And.intro e1 e2)
    clear hr hl e1 e2
    go_enter Tryd.func41, Tryd.ntmps41
    go_wp2
    go_ret2
    exact ⟨none, 0, 0, by rw [HE.out.1]; rfl, by rw [HE.out.2]; exact OwnB.nil _ _, Below.refl _ _⟩
  · have e1 : putE l = 0 := by unfold putE; rw [if_neg (by omega)]
    have e2 : putB k l = fput k l := by unfold putB; rw [if_neg (by omega)]
    have hhi := hi_byte n (by omega)
    have hlo := lo_byte n
    generalize hH : UInt8.ofNat (n / 256) = hi at *
    generalize hL : UInt8.ofNat n = lo at *
    have HR := Lib.hid hr
    have HE := Lib.hid (And.intro e1 e2)
    have HL := Lib.hid hl
    clear hr hl e1 e2
    have HM : Hid (((([0xf7, k, hi, lo] ++ l).drop 1).take (3 + n)) = fmid k l) := Lib.hid (by rw [← hH, ← hL, ← HL.out]; unfold fmid; simp [Nat.add_comm 3])
    have hlit := OwnB.lit w w.heap.size w.heap.size 4 #[.int .u8 247, .int .u8 (k.toNat : Int), .int .u8 (hi.toNat : Int), .int .u8 (lo.toNat : Int)] [0xf7, k, hi, lo] rfl (Nat.le_refl _) rfl rfl (by unfold maxLen; omega)
    have b1 := (Below.refl w.heap.size w).alloc (Nat.le_refl _) (.cells #[.int .u8 247, .int .u8 (k.toNat : Int), .int .u8 (hi.toNat : Int), .int .u8 (lo.toNat : Int)] 5)
    have hsrc := HR.out.below (b1.mono hB)
    go_enter Tryd.func41, Tryd.ntmps41
    have c3 := sum_byte3 (fsum k l)
    have c2' := sum_byte2 (fsum k l)
    have c1 := sum_byte1 (fsum k l)
    have c0 := sum_byte0 (fsum k l)
    have HF : Hid ([0xf7, k, hi, lo] ++ l ++ big (fsum k l) = fput k l) := Lib.hid (by rw [← hH, ← hL, ← HL.out]; rfl)
    have HS := Lib.hid (show Crc.add 0 (fmid k l) = fsum k l from rfl)
    unfold big at HF
    generalize fsum k l = s at *
    generalize byteOf s.toNat 3 = y3 at *
    generalize byteOf s.toNat 2 = y2 at *
    generalize byteOf s.toNat 1 = y1 at *
    generalize byteOf s.toNat 0 = y0 at *
    go_wp2_with (first
      | (at_builtin; refine wpList_append_bytes rfl (.tmp 20) (.tmp 21) rfl rfl hlit rfl hsrc (by omega) (by simp) ?_; intro A2 c2 w2 hown hg hat; have hb2 : Below w.heap.size w w2 := b1.grown hg (by simp) (by intro k hk; simp at hk; omega); obtain ⟨g, hA2, hgb, hgs, hgc⟩ := hown.form_pos (by omega); subst hA2; have hmid := hown.bytes.win 1 (3 + n) (by omega); rw [HM.out] at hmid; have QC' := refSum (some ⟨g, 1, none⟩) (3 + n) (c2 - 1) (fmid k l) w2.heap.size w2 hmid (by omega); rw [HS.out] at QC'; have QC := Lib.hid QC'; clear QC'; have hbl := OwnB.lit w2 w.heap.size w2.heap.size 4 #[.int .u8 (y3.toNat : Int), .int .u8 (y2.toNat : Int), .int .u8 (y1.toNat : Int), .int .u8 (y0.toNat : Int)] [y3, y2, y1, y0] rfl hb2.size rfl rfl (by unfold maxLen; omega); have hoa := hown.alloc (.cells #[.int .u8 (y3.toNat : Int), .int .u8 (y2.toNat : Int), .int .u8 (y1.toNat : Int), .int .u8 (y0.toNat : Int)] 5); have hbb := hb2.alloc hb2.size (.cells #[.int .u8 (y3.toNat : Int), .int .u8 (y2.toNat : Int), .int .u8 (y1.toNat : Int), .int .u8 (y0.toNat : Int)] 5); have hbs := hbb.size)
      | (at_builtin; refine wpList_append_bytes rfl (.tmp 26) (.tmp 38) rfl rfl hoa rfl hbl.bytes (by omega) hbs ?_; intro A8 c8 w8 hown8 hg8 hat8)
      | (go_at_call 31; have QCo := QC.out; clear QC; refine QCo.mono ?_; clear QCo; rintro e w' ⟨rfl, rfl⟩))
    go_ret2
    refine ⟨A8, 4 + n + 4, c8, by rw [HE.out.1]; rfl, ?_, hbb.grown hg8 hbs (fun k hk => by cases hk; exact hgb)⟩
    rw [HE.out.2, ← HF.out]
    exact hown8
end Go.Proofs.YtddcfgbembjbhaaDoor
