/- The head's words, told once. -/
import Derived.Test.YtddcfgbembjbhaaDoorOpen
namespace Go.Proofs.YtddcfgbembjbhaaDoor
def headChars : List Char := List.map Char.ofNat [104, 97, 114, 110, 101, 115, 115, 32, 97, 97, 52, 50, 56, 49, 97, 97, 53, 99, 53, 56, 51, 57, 56, 57, 57, 99, 54, 57, 48, 49, 97, 48, 98, 55, 52, 102, 52, 54, 102, 53, 98, 101, 53, 48, 55, 53, 102, 56, 55, 50, 54, 100, 57, 52, 101, 99, 49, 98, 48, 57, 97, 98, 51, 49, 49, 53, 57, 53, 99, 55, 48, 48, 32, 99, 117, 116, 32, 97, 116, 32, 108, 111, 99, 117, 109, 47, 108, 111, 99, 117, 109, 108, 97, 119, 48, 50, 46, 67, 114, 99, 83, 117, 109, 115, 32, 108, 111, 99, 117, 109, 47, 108, 111, 99, 117, 109, 108, 97, 119, 48, 50, 46, 67, 114, 99, 80, 105, 101, 99, 101, 115, 32, 108, 111, 99, 117, 109, 47, 108, 111, 99, 117, 109, 108, 97, 119, 48, 50, 46, 67, 114, 99, 66, 121, 116, 101, 32, 108, 111, 99, 117, 109, 47, 108, 111, 99, 117, 109, 108, 97, 119, 48, 50, 46, 67, 114, 99, 84, 104, 114, 101, 101, 32, 108, 111, 99, 117, 109, 47, 108, 111, 99, 117, 109, 108, 97, 119, 48, 50, 46, 67, 114, 99, 66, 117, 114, 115, 116, 32, 108, 111, 99, 117, 109, 47, 108, 111, 99, 117, 109, 108, 97, 119, 48, 50, 46, 67, 114, 99, 79, 119, 110, 32, 108, 111, 99, 117, 109, 47, 108, 111, 99, 117, 109, 108, 97, 119, 49, 57, 46, 83, 112, 108, 105, 116, 84, 101, 108, 108, 115, 32, 108, 111, 99, 117, 109, 47, 108, 111, 99, 117, 109, 108, 97, 119, 49, 57, 46, 83, 112, 108, 105, 116, 77, 111, 118, 101, 115, 32, 108, 111, 99, 117, 109, 47, 108, 111, 99, 117, 109, 108, 97, 119, 49, 57, 46, 83, 112, 108, 105, 116, 69, 110, 100, 115, 32, 108, 111, 99, 117, 109, 47, 108, 111, 99, 117, 109, 108, 97, 119, 49, 57, 46, 83, 112, 108, 105, 116, 83, 97, 109, 101, 32, 108, 111, 99, 117, 109, 47, 108, 111, 99, 117, 109, 108, 97, 119, 48, 51, 46, 70, 114, 97, 109, 101, 80, 117, 116, 115, 32, 108, 111, 99, 117, 109, 47, 108, 111, 99, 117, 109, 108, 97, 119, 48, 51, 46, 70, 114, 97, 109, 101, 66, 97, 99, 107, 32, 108, 111, 99, 117, 109, 47, 108, 111, 99, 117, 109, 108, 97, 119, 48, 51, 46, 70, 114, 97, 109, 101, 83, 112, 111, 105, 108, 116, 32, 108, 111, 99, 117, 109, 47, 108, 111, 99, 117, 109, 108, 97, 119, 48, 51, 46, 70, 114, 97, 109, 101, 83, 105, 122, 101, 115, 32, 108, 111, 99, 117, 109, 47, 108, 111, 99, 117, 109, 108, 97, 119, 50, 49, 46, 82, 111, 117, 116, 101, 84, 101, 108, 108, 115, 32, 108, 111, 99, 117, 109, 47, 108, 111, 99, 117, 109, 108, 97, 119, 50, 49, 46, 82, 111, 117, 116, 101, 78, 97, 109, 101, 100, 32, 108, 111, 99, 117, 109, 47, 108, 111, 99, 117, 109, 108, 97, 119, 50, 49, 46, 82, 111, 117, 116, 101, 65, 108, 108, 32, 108, 111, 99, 117, 109, 47, 108, 111, 99, 117, 109, 108, 97, 119, 50, 49, 46, 82, 111, 117, 116, 101, 70, 105, 114, 115, 116, 32, 108, 111, 99, 117, 109, 47, 108, 111, 99, 117, 109, 108, 97, 119, 48, 51, 46, 70, 114, 97, 109, 101, 71, 101, 116, 115, 32, 108, 111, 99, 117, 109, 47, 108, 111, 99, 117, 109, 108, 97, 119, 48, 51, 46, 70, 114, 97, 109, 101, 67, 117, 116, 115, 32, 108, 111, 99, 117, 109, 47, 108, 111, 99, 117, 109, 108, 97, 119, 48, 51, 46, 70, 114, 97, 109, 101, 74, 111, 105, 110, 101, 100, 32, 108, 111, 99, 117, 109, 47, 108, 111, 99, 117, 109, 108, 97, 119, 48, 54, 46, 74, 111, 117, 114, 110, 97, 108, 76, 111, 115, 116, 32, 108, 111, 99, 117, 109, 47, 108, 111, 99, 117, 109, 108, 97, 119, 48, 54, 46, 74, 111, 117, 114, 110, 97, 108, 82, 101, 99, 111, 118, 101, 114, 115, 32, 108, 111, 99, 117, 109, 47, 108, 111, 99, 117, 109, 108, 97, 119, 48, 54, 46, 74, 111, 117, 114, 110, 97, 108, 70, 117, 115, 101, 32, 108, 111, 99, 117, 109, 47, 108, 111, 99, 117, 109, 108, 97, 119, 48, 54, 46, 74, 111, 117, 114, 110, 97, 108, 68, 111, 119, 110, 32, 108, 111, 99, 117, 109, 47, 108, 111, 99, 117, 109, 108, 97, 119, 48, 54, 46, 74, 111, 117, 114, 110, 97, 108, 80, 108, 97, 121, 115]
theorem initIs : Tryd.prog.initOrder = String.ofList headChars := by kernel_rfl
theorem initList : Tryd.prog.initOrder.toList = headChars := by rw [initIs, String.toList_ofList]
theorem laysLaterIs : Tryd.prog.laysLater = false := by kernel_rfl
theorem bearsReflectIs : Tryd.prog.bearsReflect = false := by kernel_rfl
theorem doorFitsIs : Tryd.prog.doorFits [] = true := by kernel_rfl
theorem stripIs : stripLifts liftWords (behindMainWord (wordsSigns headChars)) = ([], behindMainWord (wordsSigns headChars)) := by kernel_rfl
theorem pinnedProg : Tryd.pinned.checked.prog = Tryd.prog := rfl
theorem headLiftsIs : Tryd.prog.headLifts = [] := by
  unfold Program.headLifts
  rw [initList]
  kernel_rfl
theorem mayEnter_cut {P : Program} {l : List Char} {r : List (List Char)} (h : P.initOrder.toList = l) (hx : behindMainWord (wordsSigns l) = "cut".toList :: r)
    (hs : stripLifts liftWords ("cut".toList :: r) = ([], "cut".toList :: r)) (h1 : P.laysLater = false) (h2 : P.bearsReflect = false) (h3 : P.doorFits [] = true) : P.mayEnter = true := by
  unfold Program.mayEnter
  rw [h, hx]
  simp only [hs, h1, h2, h3]
  simp
theorem make_cut {P : Program} {l : List Char} {r : List (List Char)} (h : P.initOrder.toList = l) (hx : behindMainWord (wordsSigns l) = "cut".toList :: r) : P.make = some .cut := by
  unfold Program.make
  rw [h, hx]
  simp
theorem mainIs_of {P : Program} {l s : List Char} {r : List (List Char)} (h : P.initOrder.toList = l) (hx : wordsSigns l = "harness".toList :: s :: r) (hs : isSumSigns s = true) : P.mainIs = some (true, s) := by
  unfold Program.mainIs
  rw [h, hx]
  simp [hs]
theorem cutHead : behindMainWord (wordsSigns headChars) = "cut".toList :: (behindMainWord (wordsSigns headChars)).tail := by kernel_rfl
theorem mayEnterIs : Tryd.prog.mayEnter = true := mayEnter_cut initList cutHead (by have h := stripIs; rw [cutHead] at h; exact h) laysLaterIs bearsReflectIs doorFitsIs
theorem cEnter : Tryd.pinned.checked.prog.mayEnter = true := mayEnterIs
theorem liftsFinalIs : Tryd.prog.liftsFinal = false := by
  unfold Program.liftsFinal
  rw [initList, headLiftsIs]
  kernel_rfl
theorem makeIs : Tryd.prog.make = some .cut := make_cut initList cutHead
theorem cFinal : (false == Tryd.pinned.checked.prog.liftsFinal) = true := by rw [pinnedProg, liftsFinalIs]; rfl
theorem cMake : (Tryd.pinned.checked.prog.make == some .cut) = true := by rw [pinnedProg, makeIs]; rfl
def harnessSum : List Char := "aa4281aa5c5839899c6901a0b74f46f5be5075f8726d94ec1b09ab311595c700".toList
theorem mainIsIt : Tryd.prog.mainIs = some (true, harnessSum) :=
  mainIs_of (r := (wordsSigns headChars).tail.tail) initList (by kernel_rfl) (by kernel_rfl)

/-! What every row asks of the program. -/
theorem and_mk {a b : Bool} (ha : a = true) (hb : b = true) : (a && b) = true := by rw [ha, hb]; rfl
theorem cLaid : laidOutB Tryd.pinned.checked.prog = true := by kernel_rfl
theorem cMaps : mapsRowed Tryd.pinned.checked.prog = true := by kernel_rfl
theorem cStops : (Tryd.pinned.checked.prog.stops == []) = true := by kernel_rfl
theorem cKnobs : (Tryd.pinned.checked.prog.stopKnobs == []) = true := by kernel_rfl
theorem cHeard : Tryd.pinned.checked.prog.stopsHeard = true := by kernel_rfl
theorem cKeys : Tryd.pinned.checked.prog.plainKeys = true := by kernel_rfl
theorem cLooks : false = Tryd.pinned.checked.prog.looks [] := by kernel_rfl
end Go.Proofs.YtddcfgbembjbhaaDoor
