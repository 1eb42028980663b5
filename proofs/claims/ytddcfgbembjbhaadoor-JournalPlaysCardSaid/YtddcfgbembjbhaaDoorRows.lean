/-
  NARROWER THAN 'FOR EVERY INPUT', by the rows' own cells (each row's printed sentence says how): CrcSums: laid · CrcPieces: laid · CrcByte: laid · CrcThree: laid · CrcBurst: laid · CrcOwn: laid · SplitTells: laid · SplitMoves: laid · SplitEnds: laid · SplitSame: laid · FramePuts: laid · FrameBack: laid · FrameSpoilt: laid · FrameSizes: laid · RouteTells: laid · RouteNamed: laid · RouteAll: laid · RouteFirst: laid · FrameGets: laid · FrameCuts: laid · FrameJoined: laid · JournalLost: laid · JournalRecovers: laid · JournalFuse: laid · JournalDown: laid · JournalPlays: laid.
  DERIVED. THE GIVEN ROWS OF THIS SEAT. 26 by the template 'for every input the law returns true; each argument reads behind the call as it read before'; 0 by the template 'total and deterministic' (their statements: YtddcfgbembjbhaaDoorTotals.lean).
  GIVEN WITH THE SEED: the statements are not yours to turn. If you find one false, say at which input.
  Laid BY PROGRAM, IN A SANDBOX (cutbox-rows.mjs): the forced cells as the released guide's own fill.sh prints them over the translation 6c32036ba4027afb… (all of the seat's roots in one cut). By AI agents, Wed Nov 11 2026. No macro, syntax, notation, axiom, sorry.
-/
import Derived.Test.YtddcfgbembjbhaaDoorChecked
import GoSem.Claim
import GoSem.ClaimJoined
import GoSem.ClaimMapViews
import Derived.JoinedTies
import Derived.KernelRfl
namespace Go.Proofs.YtddcfgbembjbhaaDoor
/- THE CELL 'sum', in the pinned program and in every row, IS THE sha256 OF THE DUMP (.gsa) THAT YtddcfgbembjbhaaDoorProg.lean LOADS. Nothing in Lean hashes anything: it is a label: what it is worth is what the hold of that sum in a sandbox is worth. -/
noncomputable def Tryd.pinned : Pinned := { name := "ytddcfgbembjbhaadoor", sum := "6c32036ba4027afb9c02f5c625ddbd5992efe7b1f3d48f582139bcc0c9e1436e", checked := Tryd.checked }
namespace Rows
def none {H : Type} : Left H := { results := [], args := [] }

/- WHAT THE LISTED PACKAGE-LEVEL VARIABLES READ AS WHEN THE CALL BEGINS. Each datum BY PROGRAM (the guide's laid-datum.mjs) off the statement by which the dump's own 'gosem.cut.vars' lays the variable. In a bare row this is a premise. The card (YtddcfgbembjbhaaDoorCards.lean) ties it to the program's text. -/
def laid_locum_crc_four {H : Type} : DataW H := .agg [.lit (.int .u32 0), .lit (.int .u32 498536548), .lit (.int .u32 997073096), .lit (.int .u32 651767980), .lit (.int .u32 1994146192), .lit (.int .u32 1802195444), .lit (.int .u32 1303535960), .lit (.int .u32 1342533948), .lit (.int .u32 3988292384), .lit (.int .u32 4027552580), .lit (.int .u32 3604390888), .lit (.int .u32 3412177804), .lit (.int .u32 2607071920), .lit (.int .u32 2262029012), .lit (.int .u32 2685067896), .lit (.int .u32 3183342108)]

/-- 'locumlaw02.CrcSums': WHATEVER THE INPUT: true; the input reads as it did. -/
def crcSumsSpec : ChangeSpec := { name := "crcSums", fn := fun _ => fun
  | [d1, d2] => { results := [.lit (.bool true)], args := [d1, d2] }
  | _ => none }
def crcSumsRow : OpenClaim := { program := "ytddcfgbembjbhaadoor", sum := "6c32036ba4027afb9c02f5c625ddbd5992efe7b1f3d48f582139bcc0c9e1436e", func := "locum/locumlaw02.CrcSums", spec := "crcSums", named := ["locum/crc.four"], apart := false, laid := [("locum/crc.four", laid_locum_crc_four)] }
def CrcSumsSaid : Prop := crcSumsRow.holds Tryd.pinned (OpenSpec.ofChange crcSumsSpec)

/-- ITS FALSE NEIGHBOUR: 'it returns false'. Refute it at one input. -/
def crcSumsWrong : ChangeSpec := { name := "crcSums", fn := fun _ => fun
  | [d1, d2] => { results := [.lit (.bool false)], args := [d1, d2] }
  | _ => none }
def CrcSumsWrongFalsely : Prop := crcSumsRow.holds Tryd.pinned (OpenSpec.ofChange crcSumsWrong)

/-- 'locumlaw02.CrcPieces': WHATEVER THE INPUT: true; the input reads as it did. -/
def crcPiecesSpec : ChangeSpec := { name := "crcPieces", fn := fun _ => fun
  | [d1, d2] => { results := [.lit (.bool true)], args := [d1, d2] }
  | _ => none }
def crcPiecesRow : OpenClaim := { program := "ytddcfgbembjbhaadoor", sum := "6c32036ba4027afb9c02f5c625ddbd5992efe7b1f3d48f582139bcc0c9e1436e", func := "locum/locumlaw02.CrcPieces", spec := "crcPieces", named := ["locum/crc.four"], apart := false, laid := [("locum/crc.four", laid_locum_crc_four)] }
def CrcPiecesSaid : Prop := crcPiecesRow.holds Tryd.pinned (OpenSpec.ofChange crcPiecesSpec)

/-- ITS FALSE NEIGHBOUR: 'it returns false'. Refute it at one input. -/
def crcPiecesWrong : ChangeSpec := { name := "crcPieces", fn := fun _ => fun
  | [d1, d2] => { results := [.lit (.bool false)], args := [d1, d2] }
  | _ => none }
def CrcPiecesWrongFalsely : Prop := crcPiecesRow.holds Tryd.pinned (OpenSpec.ofChange crcPiecesWrong)

/-- 'locumlaw02.CrcByte': WHATEVER THE INPUT: true; the input reads as it did. -/
def crcByteSpec : ChangeSpec := { name := "crcByte", fn := fun _ => fun
  | [d1, d2, d3] => { results := [.lit (.bool true)], args := [d1, d2, d3] }
  | _ => none }
def crcByteRow : OpenClaim := { program := "ytddcfgbembjbhaadoor", sum := "6c32036ba4027afb9c02f5c625ddbd5992efe7b1f3d48f582139bcc0c9e1436e", func := "locum/locumlaw02.CrcByte", spec := "crcByte", named := ["locum/crc.four"], apart := false, laid := [("locum/crc.four", laid_locum_crc_four)] }
def CrcByteSaid : Prop := crcByteRow.holds Tryd.pinned (OpenSpec.ofChange crcByteSpec)

/-- ITS FALSE NEIGHBOUR: 'it returns false'. Refute it at one input. -/
def crcByteWrong : ChangeSpec := { name := "crcByte", fn := fun _ => fun
  | [d1, d2, d3] => { results := [.lit (.bool false)], args := [d1, d2, d3] }
  | _ => none }
def CrcByteWrongFalsely : Prop := crcByteRow.holds Tryd.pinned (OpenSpec.ofChange crcByteWrong)

/-- 'locumlaw02.CrcThree': WHATEVER THE INPUT: true; the input reads as it did. -/
def crcThreeSpec : ChangeSpec := { name := "crcThree", fn := fun _ => fun
  | [d1, d2, d3] => { results := [.lit (.bool true)], args := [d1, d2, d3] }
  | _ => none }
def crcThreeRow : OpenClaim := { program := "ytddcfgbembjbhaadoor", sum := "6c32036ba4027afb9c02f5c625ddbd5992efe7b1f3d48f582139bcc0c9e1436e", func := "locum/locumlaw02.CrcThree", spec := "crcThree", named := ["locum/crc.four"], apart := false, laid := [("locum/crc.four", laid_locum_crc_four)] }
def CrcThreeSaid : Prop := crcThreeRow.holds Tryd.pinned (OpenSpec.ofChange crcThreeSpec)

/-- ITS FALSE NEIGHBOUR: 'it returns false'. Refute it at one input. -/
def crcThreeWrong : ChangeSpec := { name := "crcThree", fn := fun _ => fun
  | [d1, d2, d3] => { results := [.lit (.bool false)], args := [d1, d2, d3] }
  | _ => none }
def CrcThreeWrongFalsely : Prop := crcThreeRow.holds Tryd.pinned (OpenSpec.ofChange crcThreeWrong)

/-- 'locumlaw02.CrcBurst': WHATEVER THE INPUT: true; the input reads as it did. -/
def crcBurstSpec : ChangeSpec := { name := "crcBurst", fn := fun _ => fun
  | [d1, d2, d3] => { results := [.lit (.bool true)], args := [d1, d2, d3] }
  | _ => none }
def crcBurstRow : OpenClaim := { program := "ytddcfgbembjbhaadoor", sum := "6c32036ba4027afb9c02f5c625ddbd5992efe7b1f3d48f582139bcc0c9e1436e", func := "locum/locumlaw02.CrcBurst", spec := "crcBurst", named := ["locum/crc.four"], apart := false, laid := [("locum/crc.four", laid_locum_crc_four)] }
def CrcBurstSaid : Prop := crcBurstRow.holds Tryd.pinned (OpenSpec.ofChange crcBurstSpec)

/-- ITS FALSE NEIGHBOUR: 'it returns false'. Refute it at one input. -/
def crcBurstWrong : ChangeSpec := { name := "crcBurst", fn := fun _ => fun
  | [d1, d2, d3] => { results := [.lit (.bool false)], args := [d1, d2, d3] }
  | _ => none }
def CrcBurstWrongFalsely : Prop := crcBurstRow.holds Tryd.pinned (OpenSpec.ofChange crcBurstWrong)

/-- 'locumlaw02.CrcOwn': WHATEVER THE INPUT: true; the input reads as it did. -/
def crcOwnSpec : ChangeSpec := { name := "crcOwn", fn := fun _ => fun
  | [d] => { results := [.lit (.bool true)], args := [d] }
  | _ => none }
def crcOwnRow : OpenClaim := { program := "ytddcfgbembjbhaadoor", sum := "6c32036ba4027afb9c02f5c625ddbd5992efe7b1f3d48f582139bcc0c9e1436e", func := "locum/locumlaw02.CrcOwn", spec := "crcOwn", named := ["locum/crc.four"], apart := false, laid := [("locum/crc.four", laid_locum_crc_four)] }
def CrcOwnSaid : Prop := crcOwnRow.holds Tryd.pinned (OpenSpec.ofChange crcOwnSpec)

/-- ITS FALSE NEIGHBOUR: 'it returns false'. Refute it at one input. -/
def crcOwnWrong : ChangeSpec := { name := "crcOwn", fn := fun _ => fun
  | [d] => { results := [.lit (.bool false)], args := [d] }
  | _ => none }
def CrcOwnWrongFalsely : Prop := crcOwnRow.holds Tryd.pinned (OpenSpec.ofChange crcOwnWrong)

/-- 'locumlaw19.SplitTells': WHATEVER THE INPUT: true; the input reads as it did. -/
def splitTellsSpec : ChangeSpec := { name := "splitTells", fn := fun _ => fun
  | [d1, d2] => { results := [.lit (.bool true)], args := [d1, d2] }
  | _ => none }
def splitTellsRow : OpenClaim := { program := "ytddcfgbembjbhaadoor", sum := "6c32036ba4027afb9c02f5c625ddbd5992efe7b1f3d48f582139bcc0c9e1436e", func := "locum/locumlaw19.SplitTells", spec := "splitTells", named := ["locum/crc.four"], apart := false, laid := [("locum/crc.four", laid_locum_crc_four)] }
def SplitTellsSaid : Prop := splitTellsRow.holds Tryd.pinned (OpenSpec.ofChange splitTellsSpec)

/-- ITS FALSE NEIGHBOUR: 'it returns false'. Refute it at one input. -/
def splitTellsWrong : ChangeSpec := { name := "splitTells", fn := fun _ => fun
  | [d1, d2] => { results := [.lit (.bool false)], args := [d1, d2] }
  | _ => none }
def SplitTellsWrongFalsely : Prop := splitTellsRow.holds Tryd.pinned (OpenSpec.ofChange splitTellsWrong)

/-- 'locumlaw19.SplitMoves': WHATEVER THE INPUT: true; the input reads as it did. -/
def splitMovesSpec : ChangeSpec := { name := "splitMoves", fn := fun _ => fun
  | [d1, d2, d3] => { results := [.lit (.bool true)], args := [d1, d2, d3] }
  | _ => none }
def splitMovesRow : OpenClaim := { program := "ytddcfgbembjbhaadoor", sum := "6c32036ba4027afb9c02f5c625ddbd5992efe7b1f3d48f582139bcc0c9e1436e", func := "locum/locumlaw19.SplitMoves", spec := "splitMoves", named := ["locum/crc.four"], apart := false, laid := [("locum/crc.four", laid_locum_crc_four)] }
def SplitMovesSaid : Prop := splitMovesRow.holds Tryd.pinned (OpenSpec.ofChange splitMovesSpec)

/-- ITS FALSE NEIGHBOUR: 'it returns false'. Refute it at one input. -/
def splitMovesWrong : ChangeSpec := { name := "splitMoves", fn := fun _ => fun
  | [d1, d2, d3] => { results := [.lit (.bool false)], args := [d1, d2, d3] }
  | _ => none }
def SplitMovesWrongFalsely : Prop := splitMovesRow.holds Tryd.pinned (OpenSpec.ofChange splitMovesWrong)

/-- 'locumlaw19.SplitEnds': WHATEVER THE INPUT: true; the input reads as it did. -/
def splitEndsSpec : ChangeSpec := { name := "splitEnds", fn := fun _ => fun
  | [d1, d2, d3, d4] => { results := [.lit (.bool true)], args := [d1, d2, d3, d4] }
  | _ => none }
def splitEndsRow : OpenClaim := { program := "ytddcfgbembjbhaadoor", sum := "6c32036ba4027afb9c02f5c625ddbd5992efe7b1f3d48f582139bcc0c9e1436e", func := "locum/locumlaw19.SplitEnds", spec := "splitEnds", named := ["locum/crc.four"], apart := false, laid := [("locum/crc.four", laid_locum_crc_four)] }
def SplitEndsSaid : Prop := splitEndsRow.holds Tryd.pinned (OpenSpec.ofChange splitEndsSpec)

/-- ITS FALSE NEIGHBOUR: 'it returns false'. Refute it at one input. -/
def splitEndsWrong : ChangeSpec := { name := "splitEnds", fn := fun _ => fun
  | [d1, d2, d3, d4] => { results := [.lit (.bool false)], args := [d1, d2, d3, d4] }
  | _ => none }
def SplitEndsWrongFalsely : Prop := splitEndsRow.holds Tryd.pinned (OpenSpec.ofChange splitEndsWrong)

/-- 'locumlaw19.SplitSame': WHATEVER THE INPUT: true; the input reads as it did. -/
def splitSameSpec : ChangeSpec := { name := "splitSame", fn := fun _ => fun
  | [d1, d2, d3] => { results := [.lit (.bool true)], args := [d1, d2, d3] }
  | _ => none }
def splitSameRow : OpenClaim := { program := "ytddcfgbembjbhaadoor", sum := "6c32036ba4027afb9c02f5c625ddbd5992efe7b1f3d48f582139bcc0c9e1436e", func := "locum/locumlaw19.SplitSame", spec := "splitSame", named := ["locum/crc.four"], apart := false, laid := [("locum/crc.four", laid_locum_crc_four)] }
def SplitSameSaid : Prop := splitSameRow.holds Tryd.pinned (OpenSpec.ofChange splitSameSpec)

/-- ITS FALSE NEIGHBOUR: 'it returns false'. Refute it at one input. -/
def splitSameWrong : ChangeSpec := { name := "splitSame", fn := fun _ => fun
  | [d1, d2, d3] => { results := [.lit (.bool false)], args := [d1, d2, d3] }
  | _ => none }
def SplitSameWrongFalsely : Prop := splitSameRow.holds Tryd.pinned (OpenSpec.ofChange splitSameWrong)

/-- 'locumlaw03.FramePuts': WHATEVER THE INPUT: true; the input reads as it did. -/
def framePutsSpec : ChangeSpec := { name := "framePuts", fn := fun _ => fun
  | [d1, d2] => { results := [.lit (.bool true)], args := [d1, d2] }
  | _ => none }
def framePutsRow : OpenClaim := { program := "ytddcfgbembjbhaadoor", sum := "6c32036ba4027afb9c02f5c625ddbd5992efe7b1f3d48f582139bcc0c9e1436e", func := "locum/locumlaw03.FramePuts", spec := "framePuts", named := ["locum/crc.four"], apart := false, laid := [("locum/crc.four", laid_locum_crc_four)] }
def FramePutsSaid : Prop := framePutsRow.holds Tryd.pinned (OpenSpec.ofChange framePutsSpec)

/-- ITS FALSE NEIGHBOUR: 'it returns false'. Refute it at one input. -/
def framePutsWrong : ChangeSpec := { name := "framePuts", fn := fun _ => fun
  | [d1, d2] => { results := [.lit (.bool false)], args := [d1, d2] }
  | _ => none }
def FramePutsWrongFalsely : Prop := framePutsRow.holds Tryd.pinned (OpenSpec.ofChange framePutsWrong)

/-- 'locumlaw03.FrameBack': WHATEVER THE INPUT: true; the input reads as it did. -/
def frameBackSpec : ChangeSpec := { name := "frameBack", fn := fun _ => fun
  | [d1, d2, d3, d4] => { results := [.lit (.bool true)], args := [d1, d2, d3, d4] }
  | _ => none }
def frameBackRow : OpenClaim := { program := "ytddcfgbembjbhaadoor", sum := "6c32036ba4027afb9c02f5c625ddbd5992efe7b1f3d48f582139bcc0c9e1436e", func := "locum/locumlaw03.FrameBack", spec := "frameBack", named := ["locum/crc.four"], apart := false, laid := [("locum/crc.four", laid_locum_crc_four)] }
def FrameBackSaid : Prop := frameBackRow.holds Tryd.pinned (OpenSpec.ofChange frameBackSpec)

/-- ITS FALSE NEIGHBOUR: 'it returns false'. Refute it at one input. -/
def frameBackWrong : ChangeSpec := { name := "frameBack", fn := fun _ => fun
  | [d1, d2, d3, d4] => { results := [.lit (.bool false)], args := [d1, d2, d3, d4] }
  | _ => none }
def FrameBackWrongFalsely : Prop := frameBackRow.holds Tryd.pinned (OpenSpec.ofChange frameBackWrong)

/-- 'locumlaw03.FrameSpoilt': WHATEVER THE INPUT: true; the input reads as it did. -/
def frameSpoiltSpec : ChangeSpec := { name := "frameSpoilt", fn := fun _ => fun
  | [d1, d2, d3, d4] => { results := [.lit (.bool true)], args := [d1, d2, d3, d4] }
  | _ => none }
def frameSpoiltRow : OpenClaim := { program := "ytddcfgbembjbhaadoor", sum := "6c32036ba4027afb9c02f5c625ddbd5992efe7b1f3d48f582139bcc0c9e1436e", func := "locum/locumlaw03.FrameSpoilt", spec := "frameSpoilt", named := ["locum/crc.four"], apart := false, laid := [("locum/crc.four", laid_locum_crc_four)] }
def FrameSpoiltSaid : Prop := frameSpoiltRow.holds Tryd.pinned (OpenSpec.ofChange frameSpoiltSpec)

/-- ITS FALSE NEIGHBOUR: 'it returns false'. Refute it at one input. -/
def frameSpoiltWrong : ChangeSpec := { name := "frameSpoilt", fn := fun _ => fun
  | [d1, d2, d3, d4] => { results := [.lit (.bool false)], args := [d1, d2, d3, d4] }
  | _ => none }
def FrameSpoiltWrongFalsely : Prop := frameSpoiltRow.holds Tryd.pinned (OpenSpec.ofChange frameSpoiltWrong)

/-- 'locumlaw03.FrameSizes': WHATEVER THE INPUT: true; the input reads as it did. -/
def frameSizesSpec : ChangeSpec := { name := "frameSizes", fn := fun _ => fun
  | [d1, d2, d3, d4] => { results := [.lit (.bool true)], args := [d1, d2, d3, d4] }
  | _ => none }
def frameSizesRow : OpenClaim := { program := "ytddcfgbembjbhaadoor", sum := "6c32036ba4027afb9c02f5c625ddbd5992efe7b1f3d48f582139bcc0c9e1436e", func := "locum/locumlaw03.FrameSizes", spec := "frameSizes", named := ["locum/crc.four"], apart := false, laid := [("locum/crc.four", laid_locum_crc_four)] }
def FrameSizesSaid : Prop := frameSizesRow.holds Tryd.pinned (OpenSpec.ofChange frameSizesSpec)

/-- ITS FALSE NEIGHBOUR: 'it returns false'. Refute it at one input. -/
def frameSizesWrong : ChangeSpec := { name := "frameSizes", fn := fun _ => fun
  | [d1, d2, d3, d4] => { results := [.lit (.bool false)], args := [d1, d2, d3, d4] }
  | _ => none }
def FrameSizesWrongFalsely : Prop := frameSizesRow.holds Tryd.pinned (OpenSpec.ofChange frameSizesWrong)

/-- 'locumlaw21.RouteTells': WHATEVER THE INPUT: true; the input reads as it did. -/
def routeTellsSpec : ChangeSpec := { name := "routeTells", fn := fun _ => fun
  | [d1, d2, d3, d4] => { results := [.lit (.bool true)], args := [d1, d2, d3, d4] }
  | _ => none }
def routeTellsRow : OpenClaim := { program := "ytddcfgbembjbhaadoor", sum := "6c32036ba4027afb9c02f5c625ddbd5992efe7b1f3d48f582139bcc0c9e1436e", func := "locum/locumlaw21.RouteTells", spec := "routeTells", unfollowed := true, recurses := true, named := ["locum/crc.four"], apart := false, laid := [("locum/crc.four", laid_locum_crc_four)] }
def RouteTellsSaid : Prop := routeTellsRow.holds Tryd.pinned (OpenSpec.ofChange routeTellsSpec)

/-- ITS FALSE NEIGHBOUR: 'it returns false'. Refute it at one input. -/
def routeTellsWrong : ChangeSpec := { name := "routeTells", fn := fun _ => fun
  | [d1, d2, d3, d4] => { results := [.lit (.bool false)], args := [d1, d2, d3, d4] }
  | _ => none }
def RouteTellsWrongFalsely : Prop := routeTellsRow.holds Tryd.pinned (OpenSpec.ofChange routeTellsWrong)

/-- 'locumlaw21.RouteNamed': WHATEVER THE INPUT: true; the input reads as it did. -/
def routeNamedSpec : ChangeSpec := { name := "routeNamed", fn := fun _ => fun
  | [d1, d2, d3, d4] => { results := [.lit (.bool true)], args := [d1, d2, d3, d4] }
  | _ => none }
def routeNamedRow : OpenClaim := { program := "ytddcfgbembjbhaadoor", sum := "6c32036ba4027afb9c02f5c625ddbd5992efe7b1f3d48f582139bcc0c9e1436e", func := "locum/locumlaw21.RouteNamed", spec := "routeNamed", unfollowed := true, recurses := true, named := ["locum/crc.four"], apart := false, laid := [("locum/crc.four", laid_locum_crc_four)] }
def RouteNamedSaid : Prop := routeNamedRow.holds Tryd.pinned (OpenSpec.ofChange routeNamedSpec)

/-- ITS FALSE NEIGHBOUR: 'it returns false'. Refute it at one input. -/
def routeNamedWrong : ChangeSpec := { name := "routeNamed", fn := fun _ => fun
  | [d1, d2, d3, d4] => { results := [.lit (.bool false)], args := [d1, d2, d3, d4] }
  | _ => none }
def RouteNamedWrongFalsely : Prop := routeNamedRow.holds Tryd.pinned (OpenSpec.ofChange routeNamedWrong)

/-- 'locumlaw21.RouteAll': WHATEVER THE INPUT: true; the input reads as it did. -/
def routeAllSpec : ChangeSpec := { name := "routeAll", fn := fun _ => fun
  | [d1, d2, d3] => { results := [.lit (.bool true)], args := [d1, d2, d3] }
  | _ => none }
def routeAllRow : OpenClaim := { program := "ytddcfgbembjbhaadoor", sum := "6c32036ba4027afb9c02f5c625ddbd5992efe7b1f3d48f582139bcc0c9e1436e", func := "locum/locumlaw21.RouteAll", spec := "routeAll", unfollowed := true, recurses := true, named := ["locum/crc.four"], apart := false, laid := [("locum/crc.four", laid_locum_crc_four)] }
def RouteAllSaid : Prop := routeAllRow.holds Tryd.pinned (OpenSpec.ofChange routeAllSpec)

/-- ITS FALSE NEIGHBOUR: 'it returns false'. Refute it at one input. -/
def routeAllWrong : ChangeSpec := { name := "routeAll", fn := fun _ => fun
  | [d1, d2, d3] => { results := [.lit (.bool false)], args := [d1, d2, d3] }
  | _ => none }
def RouteAllWrongFalsely : Prop := routeAllRow.holds Tryd.pinned (OpenSpec.ofChange routeAllWrong)

/-- 'locumlaw21.RouteFirst': WHATEVER THE INPUT: true; the input reads as it did. -/
def routeFirstSpec : ChangeSpec := { name := "routeFirst", fn := fun _ => fun
  | [d1, d2] => { results := [.lit (.bool true)], args := [d1, d2] }
  | _ => none }
def routeFirstRow : OpenClaim := { program := "ytddcfgbembjbhaadoor", sum := "6c32036ba4027afb9c02f5c625ddbd5992efe7b1f3d48f582139bcc0c9e1436e", func := "locum/locumlaw21.RouteFirst", spec := "routeFirst", unfollowed := true, recurses := true, named := ["locum/crc.four"], apart := false, laid := [("locum/crc.four", laid_locum_crc_four)] }
def RouteFirstSaid : Prop := routeFirstRow.holds Tryd.pinned (OpenSpec.ofChange routeFirstSpec)

/-- ITS FALSE NEIGHBOUR: 'it returns false'. Refute it at one input. -/
def routeFirstWrong : ChangeSpec := { name := "routeFirst", fn := fun _ => fun
  | [d1, d2] => { results := [.lit (.bool false)], args := [d1, d2] }
  | _ => none }
def RouteFirstWrongFalsely : Prop := routeFirstRow.holds Tryd.pinned (OpenSpec.ofChange routeFirstWrong)

/-- 'locumlaw03.FrameGets': WHATEVER THE INPUT: true; the input reads as it did. -/
def frameGetsSpec : ChangeSpec := { name := "frameGets", fn := fun _ => fun
  | [d1, d2] => { results := [.lit (.bool true)], args := [d1, d2] }
  | _ => none }
def frameGetsRow : OpenClaim := { program := "ytddcfgbembjbhaadoor", sum := "6c32036ba4027afb9c02f5c625ddbd5992efe7b1f3d48f582139bcc0c9e1436e", func := "locum/locumlaw03.FrameGets", spec := "frameGets", unfollowed := true, recurses := true, named := ["locum/crc.four"], apart := false, laid := [("locum/crc.four", laid_locum_crc_four)] }
def FrameGetsSaid : Prop := frameGetsRow.holds Tryd.pinned (OpenSpec.ofChange frameGetsSpec)

/-- ITS FALSE NEIGHBOUR: 'it returns false'. Refute it at one input. -/
def frameGetsWrong : ChangeSpec := { name := "frameGets", fn := fun _ => fun
  | [d1, d2] => { results := [.lit (.bool false)], args := [d1, d2] }
  | _ => none }
def FrameGetsWrongFalsely : Prop := frameGetsRow.holds Tryd.pinned (OpenSpec.ofChange frameGetsWrong)

/-- 'locumlaw03.FrameCuts': WHATEVER THE INPUT: true; the input reads as it did. -/
def frameCutsSpec : ChangeSpec := { name := "frameCuts", fn := fun _ => fun
  | [d1, d2, d3] => { results := [.lit (.bool true)], args := [d1, d2, d3] }
  | _ => none }
def frameCutsRow : OpenClaim := { program := "ytddcfgbembjbhaadoor", sum := "6c32036ba4027afb9c02f5c625ddbd5992efe7b1f3d48f582139bcc0c9e1436e", func := "locum/locumlaw03.FrameCuts", spec := "frameCuts", unfollowed := true, recurses := true, named := ["locum/crc.four"], apart := false, laid := [("locum/crc.four", laid_locum_crc_four)] }
def FrameCutsSaid : Prop := frameCutsRow.holds Tryd.pinned (OpenSpec.ofChange frameCutsSpec)

/-- ITS FALSE NEIGHBOUR: 'it returns false'. Refute it at one input. -/
def frameCutsWrong : ChangeSpec := { name := "frameCuts", fn := fun _ => fun
  | [d1, d2, d3] => { results := [.lit (.bool false)], args := [d1, d2, d3] }
  | _ => none }
def FrameCutsWrongFalsely : Prop := frameCutsRow.holds Tryd.pinned (OpenSpec.ofChange frameCutsWrong)

/-- 'locumlaw03.FrameJoined': WHATEVER THE INPUT: true; the input reads as it did. -/
def frameJoinedSpec : ChangeSpec := { name := "frameJoined", fn := fun _ => fun
  | [d1, d2] => { results := [.lit (.bool true)], args := [d1, d2] }
  | _ => none }
def frameJoinedRow : OpenClaim := { program := "ytddcfgbembjbhaadoor", sum := "6c32036ba4027afb9c02f5c625ddbd5992efe7b1f3d48f582139bcc0c9e1436e", func := "locum/locumlaw03.FrameJoined", spec := "frameJoined", unfollowed := true, recurses := true, named := ["locum/crc.four"], apart := false, laid := [("locum/crc.four", laid_locum_crc_four)] }
def FrameJoinedSaid : Prop := frameJoinedRow.holds Tryd.pinned (OpenSpec.ofChange frameJoinedSpec)

/-- ITS FALSE NEIGHBOUR: 'it returns false'. Refute it at one input. -/
def frameJoinedWrong : ChangeSpec := { name := "frameJoined", fn := fun _ => fun
  | [d1, d2] => { results := [.lit (.bool false)], args := [d1, d2] }
  | _ => none }
def FrameJoinedWrongFalsely : Prop := frameJoinedRow.holds Tryd.pinned (OpenSpec.ofChange frameJoinedWrong)

/-- 'locumlaw06.JournalLost': WHATEVER THE INPUT: true; the input reads as it did. -/
def journalLostSpec : ChangeSpec := { name := "journalLost", fn := fun _ => fun
  | [d1, d2, d3, d4, d5] => { results := [.lit (.bool true)], args := [d1, d2, d3, d4, d5] }
  | _ => none }
def journalLostRow : OpenClaim := { program := "ytddcfgbembjbhaadoor", sum := "6c32036ba4027afb9c02f5c625ddbd5992efe7b1f3d48f582139bcc0c9e1436e", func := "locum/locumlaw06.JournalLost", spec := "journalLost", unfollowed := true, recurses := true, named := ["locum/crc.four"], apart := false, laid := [("locum/crc.four", laid_locum_crc_four)] }
def JournalLostSaid : Prop := journalLostRow.holds Tryd.pinned (OpenSpec.ofChange journalLostSpec)

/-- ITS FALSE NEIGHBOUR: 'it returns false'. Refute it at one input. -/
def journalLostWrong : ChangeSpec := { name := "journalLost", fn := fun _ => fun
  | [d1, d2, d3, d4, d5] => { results := [.lit (.bool false)], args := [d1, d2, d3, d4, d5] }
  | _ => none }
def JournalLostWrongFalsely : Prop := journalLostRow.holds Tryd.pinned (OpenSpec.ofChange journalLostWrong)

/-- 'locumlaw06.JournalRecovers': WHATEVER THE INPUT: true; the input reads as it did. -/
def journalRecoversSpec : ChangeSpec := { name := "journalRecovers", fn := fun _ => fun
  | [d1, d2, d3, d4] => { results := [.lit (.bool true)], args := [d1, d2, d3, d4] }
  | _ => none }
def journalRecoversRow : OpenClaim := { program := "ytddcfgbembjbhaadoor", sum := "6c32036ba4027afb9c02f5c625ddbd5992efe7b1f3d48f582139bcc0c9e1436e", func := "locum/locumlaw06.JournalRecovers", spec := "journalRecovers", unfollowed := true, recurses := true, named := ["locum/crc.four"], apart := false, laid := [("locum/crc.four", laid_locum_crc_four)] }
def JournalRecoversSaid : Prop := journalRecoversRow.holds Tryd.pinned (OpenSpec.ofChange journalRecoversSpec)

/-- ITS FALSE NEIGHBOUR: 'it returns false'. Refute it at one input. -/
def journalRecoversWrong : ChangeSpec := { name := "journalRecovers", fn := fun _ => fun
  | [d1, d2, d3, d4] => { results := [.lit (.bool false)], args := [d1, d2, d3, d4] }
  | _ => none }
def JournalRecoversWrongFalsely : Prop := journalRecoversRow.holds Tryd.pinned (OpenSpec.ofChange journalRecoversWrong)

/-- 'locumlaw06.JournalFuse': WHATEVER THE INPUT: true; the input reads as it did. -/
def journalFuseSpec : ChangeSpec := { name := "journalFuse", fn := fun _ => fun
  | [d1, d2] => { results := [.lit (.bool true)], args := [d1, d2] }
  | _ => none }
def journalFuseRow : OpenClaim := { program := "ytddcfgbembjbhaadoor", sum := "6c32036ba4027afb9c02f5c625ddbd5992efe7b1f3d48f582139bcc0c9e1436e", func := "locum/locumlaw06.JournalFuse", spec := "journalFuse", unfollowed := true, recurses := true, named := ["locum/crc.four"], apart := false, laid := [("locum/crc.four", laid_locum_crc_four)] }
def JournalFuseSaid : Prop := journalFuseRow.holds Tryd.pinned (OpenSpec.ofChange journalFuseSpec)

/-- ITS FALSE NEIGHBOUR: 'it returns false'. Refute it at one input. -/
def journalFuseWrong : ChangeSpec := { name := "journalFuse", fn := fun _ => fun
  | [d1, d2] => { results := [.lit (.bool false)], args := [d1, d2] }
  | _ => none }
def JournalFuseWrongFalsely : Prop := journalFuseRow.holds Tryd.pinned (OpenSpec.ofChange journalFuseWrong)

/-- 'locumlaw06.JournalDown': WHATEVER THE INPUT: true; the input reads as it did. -/
def journalDownSpec : ChangeSpec := { name := "journalDown", fn := fun _ => fun
  | [d] => { results := [.lit (.bool true)], args := [d] }
  | _ => none }
def journalDownRow : OpenClaim := { program := "ytddcfgbembjbhaadoor", sum := "6c32036ba4027afb9c02f5c625ddbd5992efe7b1f3d48f582139bcc0c9e1436e", func := "locum/locumlaw06.JournalDown", spec := "journalDown", unfollowed := true, recurses := true, named := ["locum/crc.four"], apart := false, laid := [("locum/crc.four", laid_locum_crc_four)] }
def JournalDownSaid : Prop := journalDownRow.holds Tryd.pinned (OpenSpec.ofChange journalDownSpec)

/-- ITS FALSE NEIGHBOUR: 'it returns false'. Refute it at one input. -/
def journalDownWrong : ChangeSpec := { name := "journalDown", fn := fun _ => fun
  | [d] => { results := [.lit (.bool false)], args := [d] }
  | _ => none }
def JournalDownWrongFalsely : Prop := journalDownRow.holds Tryd.pinned (OpenSpec.ofChange journalDownWrong)

/-- 'locumlaw06.JournalPlays': WHATEVER THE INPUT: true; the input reads as it did. -/
def journalPlaysSpec : ChangeSpec := { name := "journalPlays", fn := fun _ => fun
  | [d] => { results := [.lit (.bool true)], args := [d] }
  | _ => none }
def journalPlaysRow : OpenClaim := { program := "ytddcfgbembjbhaadoor", sum := "6c32036ba4027afb9c02f5c625ddbd5992efe7b1f3d48f582139bcc0c9e1436e", func := "locum/locumlaw06.JournalPlays", spec := "journalPlays", unfollowed := true, recurses := true, named := ["locum/crc.four"], apart := false, laid := [("locum/crc.four", laid_locum_crc_four)] }
def JournalPlaysSaid : Prop := journalPlaysRow.holds Tryd.pinned (OpenSpec.ofChange journalPlaysSpec)

/-- ITS FALSE NEIGHBOUR: 'it returns false'. Refute it at one input. -/
def journalPlaysWrong : ChangeSpec := { name := "journalPlays", fn := fun _ => fun
  | [d] => { results := [.lit (.bool false)], args := [d] }
  | _ => none }
def JournalPlaysWrongFalsely : Prop := journalPlaysRow.holds Tryd.pinned (OpenSpec.ofChange journalPlaysWrong)

/- THE SECOND FORM. 'bulk': how many values and letters a reading holds, each counted each time it is reached (what is shared counts as often as it is met; a slice's spare places count too). A statement '..UptoSaid' is the law's where the arguments, and the package variables that the reading takes, are together of bulk at most 1048576: NARROWER than '..Said'. Prove '..Said' where nothing that the law and all that it calls make is longer than what came in: it says more and counts as full. Else prove '..UptoSaid'. A law counts once. -/
mutual
def uptoBulk {H : Type} : DataW H → Nat
  | .lit (.string bytes) => bytes.length + 1
  | .lit _ => 1
  | .nil => 1
  | .ptr d => uptoBulk d + 1
  | .slice elems spare => uptoBulkAll elems + uptoBulkAll spare + 1
  | .agg parts => uptoBulkAll parts + 1
  | .iface _ d => uptoBulk d + 1
  | .map entries => uptoBulkEntries entries + 1
  | .held _ => 1
def uptoBulkAll {H : Type} : List (DataW H) → Nat
  | [] => 0
  | d :: r => uptoBulk d + uptoBulkAll r
def uptoBulkEntries {H : Type} : List (Lit × DataW H) → Nat
  | [] => 0
  | x :: r => uptoBulkEntry x + uptoBulkEntries r
def uptoBulkEntry {H : Type} : Lit × DataW H → Nat
  | (.string bytes, d) => bytes.length + uptoBulk d + 1
  | (_, d) => uptoBulk d + 1
 end
def uptoSmall : (H : Type) → List (DataW H) → Bool := fun _ ds => decide (uptoBulkAll ds ≤ 1048576)
def OpenSpec.upto (s : _root_.Go.ChangeSpec) : _root_.Go.OpenSpec := { _root_.Go.OpenSpec.ofChange s with cond := some uptoSmall }

/-- 'locumlaw02.CrcSums', WHERE WHAT IT READS IS OF BULK AT MOST 1048576: true; the input reads as it did. -/
def crcSumsUptoRow : OpenClaim := { program := "ytddcfgbembjbhaadoor", sum := "6c32036ba4027afb9c02f5c625ddbd5992efe7b1f3d48f582139bcc0c9e1436e", func := "locum/locumlaw02.CrcSums", spec := "crcSums", named := ["locum/crc.four"], apart := false, laid := [("locum/crc.four", laid_locum_crc_four)], narrowed := true }
def CrcSumsUptoSaid : Prop := crcSumsUptoRow.holds Tryd.pinned (OpenSpec.upto crcSumsSpec)

/-- 'locumlaw02.CrcPieces', WHERE WHAT IT READS IS OF BULK AT MOST 1048576: true; the input reads as it did. -/
def crcPiecesUptoRow : OpenClaim := { program := "ytddcfgbembjbhaadoor", sum := "6c32036ba4027afb9c02f5c625ddbd5992efe7b1f3d48f582139bcc0c9e1436e", func := "locum/locumlaw02.CrcPieces", spec := "crcPieces", named := ["locum/crc.four"], apart := false, laid := [("locum/crc.four", laid_locum_crc_four)], narrowed := true }
def CrcPiecesUptoSaid : Prop := crcPiecesUptoRow.holds Tryd.pinned (OpenSpec.upto crcPiecesSpec)

/-- 'locumlaw02.CrcByte', WHERE WHAT IT READS IS OF BULK AT MOST 1048576: true; the input reads as it did. -/
def crcByteUptoRow : OpenClaim := { program := "ytddcfgbembjbhaadoor", sum := "6c32036ba4027afb9c02f5c625ddbd5992efe7b1f3d48f582139bcc0c9e1436e", func := "locum/locumlaw02.CrcByte", spec := "crcByte", named := ["locum/crc.four"], apart := false, laid := [("locum/crc.four", laid_locum_crc_four)], narrowed := true }
def CrcByteUptoSaid : Prop := crcByteUptoRow.holds Tryd.pinned (OpenSpec.upto crcByteSpec)

/-- 'locumlaw02.CrcThree', WHERE WHAT IT READS IS OF BULK AT MOST 1048576: true; the input reads as it did. -/
def crcThreeUptoRow : OpenClaim := { program := "ytddcfgbembjbhaadoor", sum := "6c32036ba4027afb9c02f5c625ddbd5992efe7b1f3d48f582139bcc0c9e1436e", func := "locum/locumlaw02.CrcThree", spec := "crcThree", named := ["locum/crc.four"], apart := false, laid := [("locum/crc.four", laid_locum_crc_four)], narrowed := true }
def CrcThreeUptoSaid : Prop := crcThreeUptoRow.holds Tryd.pinned (OpenSpec.upto crcThreeSpec)

/-- 'locumlaw02.CrcBurst', WHERE WHAT IT READS IS OF BULK AT MOST 1048576: true; the input reads as it did. -/
def crcBurstUptoRow : OpenClaim := { program := "ytddcfgbembjbhaadoor", sum := "6c32036ba4027afb9c02f5c625ddbd5992efe7b1f3d48f582139bcc0c9e1436e", func := "locum/locumlaw02.CrcBurst", spec := "crcBurst", named := ["locum/crc.four"], apart := false, laid := [("locum/crc.four", laid_locum_crc_four)], narrowed := true }
def CrcBurstUptoSaid : Prop := crcBurstUptoRow.holds Tryd.pinned (OpenSpec.upto crcBurstSpec)

/-- 'locumlaw02.CrcOwn', WHERE WHAT IT READS IS OF BULK AT MOST 1048576: true; the input reads as it did. -/
def crcOwnUptoRow : OpenClaim := { program := "ytddcfgbembjbhaadoor", sum := "6c32036ba4027afb9c02f5c625ddbd5992efe7b1f3d48f582139bcc0c9e1436e", func := "locum/locumlaw02.CrcOwn", spec := "crcOwn", named := ["locum/crc.four"], apart := false, laid := [("locum/crc.four", laid_locum_crc_four)], narrowed := true }
def CrcOwnUptoSaid : Prop := crcOwnUptoRow.holds Tryd.pinned (OpenSpec.upto crcOwnSpec)

/-- 'locumlaw19.SplitTells', WHERE WHAT IT READS IS OF BULK AT MOST 1048576: true; the input reads as it did. -/
def splitTellsUptoRow : OpenClaim := { program := "ytddcfgbembjbhaadoor", sum := "6c32036ba4027afb9c02f5c625ddbd5992efe7b1f3d48f582139bcc0c9e1436e", func := "locum/locumlaw19.SplitTells", spec := "splitTells", named := ["locum/crc.four"], apart := false, laid := [("locum/crc.four", laid_locum_crc_four)], narrowed := true }
def SplitTellsUptoSaid : Prop := splitTellsUptoRow.holds Tryd.pinned (OpenSpec.upto splitTellsSpec)

/-- 'locumlaw19.SplitMoves', WHERE WHAT IT READS IS OF BULK AT MOST 1048576: true; the input reads as it did. -/
def splitMovesUptoRow : OpenClaim := { program := "ytddcfgbembjbhaadoor", sum := "6c32036ba4027afb9c02f5c625ddbd5992efe7b1f3d48f582139bcc0c9e1436e", func := "locum/locumlaw19.SplitMoves", spec := "splitMoves", named := ["locum/crc.four"], apart := false, laid := [("locum/crc.four", laid_locum_crc_four)], narrowed := true }
def SplitMovesUptoSaid : Prop := splitMovesUptoRow.holds Tryd.pinned (OpenSpec.upto splitMovesSpec)

/-- 'locumlaw19.SplitEnds', WHERE WHAT IT READS IS OF BULK AT MOST 1048576: true; the input reads as it did. -/
def splitEndsUptoRow : OpenClaim := { program := "ytddcfgbembjbhaadoor", sum := "6c32036ba4027afb9c02f5c625ddbd5992efe7b1f3d48f582139bcc0c9e1436e", func := "locum/locumlaw19.SplitEnds", spec := "splitEnds", named := ["locum/crc.four"], apart := false, laid := [("locum/crc.four", laid_locum_crc_four)], narrowed := true }
def SplitEndsUptoSaid : Prop := splitEndsUptoRow.holds Tryd.pinned (OpenSpec.upto splitEndsSpec)

/-- 'locumlaw19.SplitSame', WHERE WHAT IT READS IS OF BULK AT MOST 1048576: true; the input reads as it did. -/
def splitSameUptoRow : OpenClaim := { program := "ytddcfgbembjbhaadoor", sum := "6c32036ba4027afb9c02f5c625ddbd5992efe7b1f3d48f582139bcc0c9e1436e", func := "locum/locumlaw19.SplitSame", spec := "splitSame", named := ["locum/crc.four"], apart := false, laid := [("locum/crc.four", laid_locum_crc_four)], narrowed := true }
def SplitSameUptoSaid : Prop := splitSameUptoRow.holds Tryd.pinned (OpenSpec.upto splitSameSpec)

/-- 'locumlaw03.FramePuts', WHERE WHAT IT READS IS OF BULK AT MOST 1048576: true; the input reads as it did. -/
def framePutsUptoRow : OpenClaim := { program := "ytddcfgbembjbhaadoor", sum := "6c32036ba4027afb9c02f5c625ddbd5992efe7b1f3d48f582139bcc0c9e1436e", func := "locum/locumlaw03.FramePuts", spec := "framePuts", named := ["locum/crc.four"], apart := false, laid := [("locum/crc.four", laid_locum_crc_four)], narrowed := true }
def FramePutsUptoSaid : Prop := framePutsUptoRow.holds Tryd.pinned (OpenSpec.upto framePutsSpec)

/-- 'locumlaw03.FrameBack', WHERE WHAT IT READS IS OF BULK AT MOST 1048576: true; the input reads as it did. -/
def frameBackUptoRow : OpenClaim := { program := "ytddcfgbembjbhaadoor", sum := "6c32036ba4027afb9c02f5c625ddbd5992efe7b1f3d48f582139bcc0c9e1436e", func := "locum/locumlaw03.FrameBack", spec := "frameBack", named := ["locum/crc.four"], apart := false, laid := [("locum/crc.four", laid_locum_crc_four)], narrowed := true }
def FrameBackUptoSaid : Prop := frameBackUptoRow.holds Tryd.pinned (OpenSpec.upto frameBackSpec)

/-- 'locumlaw03.FrameSpoilt', WHERE WHAT IT READS IS OF BULK AT MOST 1048576: true; the input reads as it did. -/
def frameSpoiltUptoRow : OpenClaim := { program := "ytddcfgbembjbhaadoor", sum := "6c32036ba4027afb9c02f5c625ddbd5992efe7b1f3d48f582139bcc0c9e1436e", func := "locum/locumlaw03.FrameSpoilt", spec := "frameSpoilt", named := ["locum/crc.four"], apart := false, laid := [("locum/crc.four", laid_locum_crc_four)], narrowed := true }
def FrameSpoiltUptoSaid : Prop := frameSpoiltUptoRow.holds Tryd.pinned (OpenSpec.upto frameSpoiltSpec)

/-- 'locumlaw03.FrameSizes', WHERE WHAT IT READS IS OF BULK AT MOST 1048576: true; the input reads as it did. -/
def frameSizesUptoRow : OpenClaim := { program := "ytddcfgbembjbhaadoor", sum := "6c32036ba4027afb9c02f5c625ddbd5992efe7b1f3d48f582139bcc0c9e1436e", func := "locum/locumlaw03.FrameSizes", spec := "frameSizes", named := ["locum/crc.four"], apart := false, laid := [("locum/crc.four", laid_locum_crc_four)], narrowed := true }
def FrameSizesUptoSaid : Prop := frameSizesUptoRow.holds Tryd.pinned (OpenSpec.upto frameSizesSpec)

/-- 'locumlaw21.RouteTells', WHERE WHAT IT READS IS OF BULK AT MOST 1048576: true; the input reads as it did. -/
def routeTellsUptoRow : OpenClaim := { program := "ytddcfgbembjbhaadoor", sum := "6c32036ba4027afb9c02f5c625ddbd5992efe7b1f3d48f582139bcc0c9e1436e", func := "locum/locumlaw21.RouteTells", spec := "routeTells", unfollowed := true, recurses := true, named := ["locum/crc.four"], apart := false, laid := [("locum/crc.four", laid_locum_crc_four)], narrowed := true }
def RouteTellsUptoSaid : Prop := routeTellsUptoRow.holds Tryd.pinned (OpenSpec.upto routeTellsSpec)

/-- 'locumlaw21.RouteNamed', WHERE WHAT IT READS IS OF BULK AT MOST 1048576: true; the input reads as it did. -/
def routeNamedUptoRow : OpenClaim := { program := "ytddcfgbembjbhaadoor", sum := "6c32036ba4027afb9c02f5c625ddbd5992efe7b1f3d48f582139bcc0c9e1436e", func := "locum/locumlaw21.RouteNamed", spec := "routeNamed", unfollowed := true, recurses := true, named := ["locum/crc.four"], apart := false, laid := [("locum/crc.four", laid_locum_crc_four)], narrowed := true }
def RouteNamedUptoSaid : Prop := routeNamedUptoRow.holds Tryd.pinned (OpenSpec.upto routeNamedSpec)

/-- 'locumlaw21.RouteAll', WHERE WHAT IT READS IS OF BULK AT MOST 1048576: true; the input reads as it did. -/
def routeAllUptoRow : OpenClaim := { program := "ytddcfgbembjbhaadoor", sum := "6c32036ba4027afb9c02f5c625ddbd5992efe7b1f3d48f582139bcc0c9e1436e", func := "locum/locumlaw21.RouteAll", spec := "routeAll", unfollowed := true, recurses := true, named := ["locum/crc.four"], apart := false, laid := [("locum/crc.four", laid_locum_crc_four)], narrowed := true }
def RouteAllUptoSaid : Prop := routeAllUptoRow.holds Tryd.pinned (OpenSpec.upto routeAllSpec)

/-- 'locumlaw21.RouteFirst', WHERE WHAT IT READS IS OF BULK AT MOST 1048576: true; the input reads as it did. -/
def routeFirstUptoRow : OpenClaim := { program := "ytddcfgbembjbhaadoor", sum := "6c32036ba4027afb9c02f5c625ddbd5992efe7b1f3d48f582139bcc0c9e1436e", func := "locum/locumlaw21.RouteFirst", spec := "routeFirst", unfollowed := true, recurses := true, named := ["locum/crc.four"], apart := false, laid := [("locum/crc.four", laid_locum_crc_four)], narrowed := true }
def RouteFirstUptoSaid : Prop := routeFirstUptoRow.holds Tryd.pinned (OpenSpec.upto routeFirstSpec)

/-- 'locumlaw03.FrameGets', WHERE WHAT IT READS IS OF BULK AT MOST 1048576: true; the input reads as it did. -/
def frameGetsUptoRow : OpenClaim := { program := "ytddcfgbembjbhaadoor", sum := "6c32036ba4027afb9c02f5c625ddbd5992efe7b1f3d48f582139bcc0c9e1436e", func := "locum/locumlaw03.FrameGets", spec := "frameGets", unfollowed := true, recurses := true, named := ["locum/crc.four"], apart := false, laid := [("locum/crc.four", laid_locum_crc_four)], narrowed := true }
def FrameGetsUptoSaid : Prop := frameGetsUptoRow.holds Tryd.pinned (OpenSpec.upto frameGetsSpec)

/-- 'locumlaw03.FrameCuts', WHERE WHAT IT READS IS OF BULK AT MOST 1048576: true; the input reads as it did. -/
def frameCutsUptoRow : OpenClaim := { program := "ytddcfgbembjbhaadoor", sum := "6c32036ba4027afb9c02f5c625ddbd5992efe7b1f3d48f582139bcc0c9e1436e", func := "locum/locumlaw03.FrameCuts", spec := "frameCuts", unfollowed := true, recurses := true, named := ["locum/crc.four"], apart := false, laid := [("locum/crc.four", laid_locum_crc_four)], narrowed := true }
def FrameCutsUptoSaid : Prop := frameCutsUptoRow.holds Tryd.pinned (OpenSpec.upto frameCutsSpec)

/-- 'locumlaw03.FrameJoined', WHERE WHAT IT READS IS OF BULK AT MOST 1048576: true; the input reads as it did. -/
def frameJoinedUptoRow : OpenClaim := { program := "ytddcfgbembjbhaadoor", sum := "6c32036ba4027afb9c02f5c625ddbd5992efe7b1f3d48f582139bcc0c9e1436e", func := "locum/locumlaw03.FrameJoined", spec := "frameJoined", unfollowed := true, recurses := true, named := ["locum/crc.four"], apart := false, laid := [("locum/crc.four", laid_locum_crc_four)], narrowed := true }
def FrameJoinedUptoSaid : Prop := frameJoinedUptoRow.holds Tryd.pinned (OpenSpec.upto frameJoinedSpec)

/-- 'locumlaw06.JournalLost', WHERE WHAT IT READS IS OF BULK AT MOST 1048576: true; the input reads as it did. -/
def journalLostUptoRow : OpenClaim := { program := "ytddcfgbembjbhaadoor", sum := "6c32036ba4027afb9c02f5c625ddbd5992efe7b1f3d48f582139bcc0c9e1436e", func := "locum/locumlaw06.JournalLost", spec := "journalLost", unfollowed := true, recurses := true, named := ["locum/crc.four"], apart := false, laid := [("locum/crc.four", laid_locum_crc_four)], narrowed := true }
def JournalLostUptoSaid : Prop := journalLostUptoRow.holds Tryd.pinned (OpenSpec.upto journalLostSpec)

/-- 'locumlaw06.JournalRecovers', WHERE WHAT IT READS IS OF BULK AT MOST 1048576: true; the input reads as it did. -/
def journalRecoversUptoRow : OpenClaim := { program := "ytddcfgbembjbhaadoor", sum := "6c32036ba4027afb9c02f5c625ddbd5992efe7b1f3d48f582139bcc0c9e1436e", func := "locum/locumlaw06.JournalRecovers", spec := "journalRecovers", unfollowed := true, recurses := true, named := ["locum/crc.four"], apart := false, laid := [("locum/crc.four", laid_locum_crc_four)], narrowed := true }
def JournalRecoversUptoSaid : Prop := journalRecoversUptoRow.holds Tryd.pinned (OpenSpec.upto journalRecoversSpec)

/-- 'locumlaw06.JournalFuse', WHERE WHAT IT READS IS OF BULK AT MOST 1048576: true; the input reads as it did. -/
def journalFuseUptoRow : OpenClaim := { program := "ytddcfgbembjbhaadoor", sum := "6c32036ba4027afb9c02f5c625ddbd5992efe7b1f3d48f582139bcc0c9e1436e", func := "locum/locumlaw06.JournalFuse", spec := "journalFuse", unfollowed := true, recurses := true, named := ["locum/crc.four"], apart := false, laid := [("locum/crc.four", laid_locum_crc_four)], narrowed := true }
def JournalFuseUptoSaid : Prop := journalFuseUptoRow.holds Tryd.pinned (OpenSpec.upto journalFuseSpec)

/-- 'locumlaw06.JournalDown', WHERE WHAT IT READS IS OF BULK AT MOST 1048576: true; the input reads as it did. -/
def journalDownUptoRow : OpenClaim := { program := "ytddcfgbembjbhaadoor", sum := "6c32036ba4027afb9c02f5c625ddbd5992efe7b1f3d48f582139bcc0c9e1436e", func := "locum/locumlaw06.JournalDown", spec := "journalDown", unfollowed := true, recurses := true, named := ["locum/crc.four"], apart := false, laid := [("locum/crc.four", laid_locum_crc_four)], narrowed := true }
def JournalDownUptoSaid : Prop := journalDownUptoRow.holds Tryd.pinned (OpenSpec.upto journalDownSpec)

/-- 'locumlaw06.JournalPlays', WHERE WHAT IT READS IS OF BULK AT MOST 1048576: true; the input reads as it did. -/
def journalPlaysUptoRow : OpenClaim := { program := "ytddcfgbembjbhaadoor", sum := "6c32036ba4027afb9c02f5c625ddbd5992efe7b1f3d48f582139bcc0c9e1436e", func := "locum/locumlaw06.JournalPlays", spec := "journalPlays", unfollowed := true, recurses := true, named := ["locum/crc.four"], apart := false, laid := [("locum/crc.four", laid_locum_crc_four)], narrowed := true }
def JournalPlaysUptoSaid : Prop := journalPlaysUptoRow.holds Tryd.pinned (OpenSpec.upto journalPlaysSpec)

end Rows
end Go.Proofs.YtddcfgbembjbhaaDoor
