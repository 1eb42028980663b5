/- The head's words, told once. -/
import Derived.Test.YtddcfgbembjbhaaOpen
namespace Go.Proofs.Ytddcfgbembjbhaa
def headChars : List Char := List.map Char.ofNat [104, 97, 114, 110, 101, 115, 115, 32, 50, 57, 54, 51, 100, 54, 99, 50, 99, 50, 56, 98, 98, 54, 101, 99, 51, 48, 49, 49, 52, 51, 102, 49, 53, 97, 102, 52, 100, 49, 53, 55, 50, 52, 102, 55, 97, 53, 51, 51, 51, 102, 50, 101, 52, 54, 99, 51, 100, 102, 97, 49, 100, 50, 55, 48, 51, 97, 99, 101, 98, 51, 48, 48, 32, 99, 117, 116, 32, 97, 116, 32, 108, 111, 99, 117, 109, 47, 108, 111, 99, 117, 109, 108, 97, 119, 48, 55, 46, 78, 101, 116, 68, 111, 117, 98, 108, 101, 115, 32, 108, 111, 99, 117, 109, 47, 108, 111, 99, 117, 109, 108, 97, 119, 48, 55, 46, 78, 101, 116, 80, 108, 97, 121, 115, 32, 108, 111, 99, 117, 109, 47, 108, 111, 99, 117, 109, 108, 97, 119, 48, 55, 46, 78, 101, 116, 84, 97, 107, 101, 115, 32, 108, 111, 99, 117, 109, 47, 108, 111, 99, 117, 109, 108, 97, 119, 48, 55, 46, 78, 101, 116, 79, 114, 100, 101, 114]
theorem initIs : Try.prog.initOrder = String.ofList headChars := by kernel_rfl
theorem initList : Try.prog.initOrder.toList = headChars := by rw [initIs, String.toList_ofList]
theorem laysLaterIs : Try.prog.laysLater = false := by kernel_rfl
theorem bearsReflectIs : Try.prog.bearsReflect = false := by kernel_rfl
theorem doorFitsIs : Try.prog.doorFits [] = true := by kernel_rfl
theorem stripIs : stripLifts liftWords (behindMainWord (wordsSigns headChars)) = ([], behindMainWord (wordsSigns headChars)) := by kernel_rfl
theorem pinnedProg : Try.pinned.checked.prog = Try.prog := rfl
theorem headLiftsIs : Try.prog.headLifts = [] := by
  unfold Program.headLifts
  rw [initList]
  kernel_rfl
theorem mayEnter_cut {P : Program} {l : List Char} {r : List (List Char)} (h : P.initOrder.toList = l) (hx : behindMainWord (wordsSigns l) = "cut".toList :: r)
    (hs : stripLifts liftWords ("cut".toList :: r) = ([], "cut".toList :: r)) (h1 : P.laysLater = false) (h2 : P.bearsReflect = false) (h3 : P.doorFits [] = true) : P.mayEnter = true := by
  unfold Program.mayEnter
  rw [h, hx]
  simp only [hs, h1, h2, h3]
  simp
theorem make_cut {P : Program} {l : List Char} {r : List (List Char)} (h : P.initOrder.toList = l) (hx : behindMainWord (wordsSigns l) = "cut".toList :: r) : P.make = some .cut := by
  unfold Program.make
  rw [h, hx]
  simp
theorem mainIs_of {P : Program} {l s : List Char} {r : List (List Char)} (h : P.initOrder.toList = l) (hx : wordsSigns l = "harness".toList :: s :: r) (hs : isSumSigns s = true) : P.mainIs = some (true, s) := by
  unfold Program.mainIs
  rw [h, hx]
  simp [hs]
theorem cutHead : behindMainWord (wordsSigns headChars) = "cut".toList :: (behindMainWord (wordsSigns headChars)).tail := by kernel_rfl
theorem mayEnterIs : Try.prog.mayEnter = true := mayEnter_cut initList cutHead (by have h := stripIs; rw [cutHead] at h; exact h) laysLaterIs bearsReflectIs doorFitsIs
theorem cEnter : Try.pinned.checked.prog.mayEnter = true := mayEnterIs
theorem liftsFinalIs : Try.prog.liftsFinal = false := by
  unfold Program.liftsFinal
  rw [initList, headLiftsIs]
  kernel_rfl
theorem makeIs : Try.prog.make = some .cut := make_cut initList cutHead
theorem cFinal : (false == Try.pinned.checked.prog.liftsFinal) = true := by rw [pinnedProg, liftsFinalIs]; rfl
theorem cMake : (Try.pinned.checked.prog.make == some .cut) = true := by rw [pinnedProg, makeIs]; rfl
def harnessSum : List Char := "2963d6c2c28bb6ec301143f15af4d15724f7a5333f2e46c3dfa1d2703aceb300".toList
theorem mainIsIt : Try.prog.mainIs = some (true, harnessSum) :=
  mainIs_of (r := (wordsSigns headChars).tail.tail) initList (by kernel_rfl) (by kernel_rfl)

/-! What every row asks of the program. -/
theorem and_mk {a b : Bool} (ha : a = true) (hb : b = true) : (a && b) = true := by rw [ha, hb]; rfl
theorem cLaid : laidOutB Try.pinned.checked.prog = true := by kernel_rfl
theorem cMaps : mapsRowed Try.pinned.checked.prog = true := by kernel_rfl
theorem cStops : (Try.pinned.checked.prog.stops == []) = true := by kernel_rfl
theorem cKnobs : (Try.pinned.checked.prog.stopKnobs == []) = true := by kernel_rfl
theorem cHeard : Try.pinned.checked.prog.stopsHeard = true := by kernel_rfl
theorem cKeys : Try.pinned.checked.prog.plainKeys = true := by kernel_rfl
end Go.Proofs.Ytddcfgbembjbhaa
