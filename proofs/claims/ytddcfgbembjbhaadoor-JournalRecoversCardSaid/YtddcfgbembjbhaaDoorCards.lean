/-
  DERIVED. GIVEN WITH THE SEED: THE CARDS: each row of YtddcfgbembjbhaaDoorRows.lean that lists a variable, with what it lists TIED to the program's text (the seventh form; the later family's looks); each row that meets fmt, with fmt's text TOLD by the authors' own Lean function (tested against real Go, not proved from fmt's source: count such statements apart). THE CARD IS WHAT COUNTS. Prove the row's statement (the work); the ties are given (YtddcfgbembjbhaaDoorTie.lean); close each card by the builder's one call (the guide's Derived/Test/ToyasCard.lean, 'card_holds'). Laid BY PROGRAM, IN A SANDBOX (cutbox-door.mjs). By AI agents, Wed Nov 11 2026. No macro, syntax, notation, axiom, sorry.
-/
import Derived.Test.YtddcfgbembjbhaaDoorRows
import GoSem.ClaimSeven
namespace Go.Proofs.YtddcfgbembjbhaaDoor
namespace Rows

/-- THE TIED CARD OF 'locumlaw02.CrcSums'. -/
def crcSumsCard : Claim7 := { stood := { row := crcSumsRow, standIns := [], harness := (true, "aa4281aa5c5839899c6901a0b74f46f5be5075f8726d94ec1b09ab311595c700"), looks := false }, kinds := [], alts := [], laidByText := true, laidKinds := [.data], laidTests := true, laidLooks := .later }
def CrcSumsCardSaid : Prop := Claim7.holds Tryd.pinned (.plain (OpenSpec.ofChange crcSumsSpec)) crcSumsCard

/-- THE TIED CARD OF 'locumlaw02.CrcPieces'. -/
def crcPiecesCard : Claim7 := { stood := { row := crcPiecesRow, standIns := [], harness := (true, "aa4281aa5c5839899c6901a0b74f46f5be5075f8726d94ec1b09ab311595c700"), looks := false }, kinds := [], alts := [], laidByText := true, laidKinds := [.data], laidTests := true, laidLooks := .later }
def CrcPiecesCardSaid : Prop := Claim7.holds Tryd.pinned (.plain (OpenSpec.ofChange crcPiecesSpec)) crcPiecesCard

/-- THE TIED CARD OF 'locumlaw02.CrcByte'. -/
def crcByteCard : Claim7 := { stood := { row := crcByteRow, standIns := [], harness := (true, "aa4281aa5c5839899c6901a0b74f46f5be5075f8726d94ec1b09ab311595c700"), looks := false }, kinds := [], alts := [], laidByText := true, laidKinds := [.data], laidTests := true, laidLooks := .later }
def CrcByteCardSaid : Prop := Claim7.holds Tryd.pinned (.plain (OpenSpec.ofChange crcByteSpec)) crcByteCard

/-- THE TIED CARD OF 'locumlaw02.CrcThree'. -/
def crcThreeCard : Claim7 := { stood := { row := crcThreeRow, standIns := [], harness := (true, "aa4281aa5c5839899c6901a0b74f46f5be5075f8726d94ec1b09ab311595c700"), looks := false }, kinds := [], alts := [], laidByText := true, laidKinds := [.data], laidTests := true, laidLooks := .later }
def CrcThreeCardSaid : Prop := Claim7.holds Tryd.pinned (.plain (OpenSpec.ofChange crcThreeSpec)) crcThreeCard

/-- THE TIED CARD OF 'locumlaw02.CrcBurst'. -/
def crcBurstCard : Claim7 := { stood := { row := crcBurstRow, standIns := [], harness := (true, "aa4281aa5c5839899c6901a0b74f46f5be5075f8726d94ec1b09ab311595c700"), looks := false }, kinds := [], alts := [], laidByText := true, laidKinds := [.data], laidTests := true, laidLooks := .later }
def CrcBurstCardSaid : Prop := Claim7.holds Tryd.pinned (.plain (OpenSpec.ofChange crcBurstSpec)) crcBurstCard

/-- THE TIED CARD OF 'locumlaw02.CrcOwn'. -/
def crcOwnCard : Claim7 := { stood := { row := crcOwnRow, standIns := [], harness := (true, "aa4281aa5c5839899c6901a0b74f46f5be5075f8726d94ec1b09ab311595c700"), looks := false }, kinds := [], alts := [], laidByText := true, laidKinds := [.data], laidTests := true, laidLooks := .later }
def CrcOwnCardSaid : Prop := Claim7.holds Tryd.pinned (.plain (OpenSpec.ofChange crcOwnSpec)) crcOwnCard

/-- THE TIED CARD OF 'locumlaw19.SplitTells'. -/
def splitTellsCard : Claim7 := { stood := { row := splitTellsRow, standIns := [], harness := (true, "aa4281aa5c5839899c6901a0b74f46f5be5075f8726d94ec1b09ab311595c700"), looks := false }, kinds := [], alts := [], laidByText := true, laidKinds := [.data], laidTests := true, laidLooks := .later }
def SplitTellsCardSaid : Prop := Claim7.holds Tryd.pinned (.plain (OpenSpec.ofChange splitTellsSpec)) splitTellsCard

/-- THE TIED CARD OF 'locumlaw19.SplitMoves'. -/
def splitMovesCard : Claim7 := { stood := { row := splitMovesRow, standIns := [], harness := (true, "aa4281aa5c5839899c6901a0b74f46f5be5075f8726d94ec1b09ab311595c700"), looks := false }, kinds := [], alts := [], laidByText := true, laidKinds := [.data], laidTests := true, laidLooks := .later }
def SplitMovesCardSaid : Prop := Claim7.holds Tryd.pinned (.plain (OpenSpec.ofChange splitMovesSpec)) splitMovesCard

/-- THE TIED CARD OF 'locumlaw19.SplitEnds'. -/
def splitEndsCard : Claim7 := { stood := { row := splitEndsRow, standIns := [], harness := (true, "aa4281aa5c5839899c6901a0b74f46f5be5075f8726d94ec1b09ab311595c700"), looks := false }, kinds := [], alts := [], laidByText := true, laidKinds := [.data], laidTests := true, laidLooks := .later }
def SplitEndsCardSaid : Prop := Claim7.holds Tryd.pinned (.plain (OpenSpec.ofChange splitEndsSpec)) splitEndsCard

/-- THE TIED CARD OF 'locumlaw19.SplitSame'. -/
def splitSameCard : Claim7 := { stood := { row := splitSameRow, standIns := [], harness := (true, "aa4281aa5c5839899c6901a0b74f46f5be5075f8726d94ec1b09ab311595c700"), looks := false }, kinds := [], alts := [], laidByText := true, laidKinds := [.data], laidTests := true, laidLooks := .later }
def SplitSameCardSaid : Prop := Claim7.holds Tryd.pinned (.plain (OpenSpec.ofChange splitSameSpec)) splitSameCard

/-- THE TIED CARD OF 'locumlaw03.FramePuts'. -/
def framePutsCard : Claim7 := { stood := { row := framePutsRow, standIns := [], harness := (true, "aa4281aa5c5839899c6901a0b74f46f5be5075f8726d94ec1b09ab311595c700"), looks := false }, kinds := [], alts := [], laidByText := true, laidKinds := [.data], laidTests := true, laidLooks := .later }
def FramePutsCardSaid : Prop := Claim7.holds Tryd.pinned (.plain (OpenSpec.ofChange framePutsSpec)) framePutsCard

/-- THE TIED CARD OF 'locumlaw03.FrameBack'. -/
def frameBackCard : Claim7 := { stood := { row := frameBackRow, standIns := [], harness := (true, "aa4281aa5c5839899c6901a0b74f46f5be5075f8726d94ec1b09ab311595c700"), looks := false }, kinds := [], alts := [], laidByText := true, laidKinds := [.data], laidTests := true, laidLooks := .later }
def FrameBackCardSaid : Prop := Claim7.holds Tryd.pinned (.plain (OpenSpec.ofChange frameBackSpec)) frameBackCard

/-- THE TIED CARD OF 'locumlaw03.FrameSpoilt'. -/
def frameSpoiltCard : Claim7 := { stood := { row := frameSpoiltRow, standIns := [], harness := (true, "aa4281aa5c5839899c6901a0b74f46f5be5075f8726d94ec1b09ab311595c700"), looks := false }, kinds := [], alts := [], laidByText := true, laidKinds := [.data], laidTests := true, laidLooks := .later }
def FrameSpoiltCardSaid : Prop := Claim7.holds Tryd.pinned (.plain (OpenSpec.ofChange frameSpoiltSpec)) frameSpoiltCard

/-- THE TIED CARD OF 'locumlaw03.FrameSizes'. -/
def frameSizesCard : Claim7 := { stood := { row := frameSizesRow, standIns := [], harness := (true, "aa4281aa5c5839899c6901a0b74f46f5be5075f8726d94ec1b09ab311595c700"), looks := false }, kinds := [], alts := [], laidByText := true, laidKinds := [.data], laidTests := true, laidLooks := .later }
def FrameSizesCardSaid : Prop := Claim7.holds Tryd.pinned (.plain (OpenSpec.ofChange frameSizesSpec)) frameSizesCard

/-- THE TIED CARD OF 'locumlaw21.RouteTells'. -/
def routeTellsCard : Claim7 := { stood := { row := routeTellsRow, standIns := [], harness := (true, "aa4281aa5c5839899c6901a0b74f46f5be5075f8726d94ec1b09ab311595c700"), looks := false }, kinds := [], alts := [], laidByText := true, laidKinds := [.data], laidTests := true, laidLooks := .later }
def RouteTellsCardSaid : Prop := Claim7.holds Tryd.pinned (.plain (OpenSpec.ofChange routeTellsSpec)) routeTellsCard

/-- THE TIED CARD OF 'locumlaw21.RouteNamed'. -/
def routeNamedCard : Claim7 := { stood := { row := routeNamedRow, standIns := [], harness := (true, "aa4281aa5c5839899c6901a0b74f46f5be5075f8726d94ec1b09ab311595c700"), looks := false }, kinds := [], alts := [], laidByText := true, laidKinds := [.data], laidTests := true, laidLooks := .later }
def RouteNamedCardSaid : Prop := Claim7.holds Tryd.pinned (.plain (OpenSpec.ofChange routeNamedSpec)) routeNamedCard

/-- THE TIED CARD OF 'locumlaw21.RouteAll'. -/
def routeAllCard : Claim7 := { stood := { row := routeAllRow, standIns := [], harness := (true, "aa4281aa5c5839899c6901a0b74f46f5be5075f8726d94ec1b09ab311595c700"), looks := false }, kinds := [], alts := [], laidByText := true, laidKinds := [.data], laidTests := true, laidLooks := .later }
def RouteAllCardSaid : Prop := Claim7.holds Tryd.pinned (.plain (OpenSpec.ofChange routeAllSpec)) routeAllCard

/-- THE TIED CARD OF 'locumlaw21.RouteFirst'. -/
def routeFirstCard : Claim7 := { stood := { row := routeFirstRow, standIns := [], harness := (true, "aa4281aa5c5839899c6901a0b74f46f5be5075f8726d94ec1b09ab311595c700"), looks := false }, kinds := [], alts := [], laidByText := true, laidKinds := [.data], laidTests := true, laidLooks := .later }
def RouteFirstCardSaid : Prop := Claim7.holds Tryd.pinned (.plain (OpenSpec.ofChange routeFirstSpec)) routeFirstCard

/-- THE TIED CARD OF 'locumlaw03.FrameGets'. -/
def frameGetsCard : Claim7 := { stood := { row := frameGetsRow, standIns := [], harness := (true, "aa4281aa5c5839899c6901a0b74f46f5be5075f8726d94ec1b09ab311595c700"), looks := false }, kinds := [], alts := [], laidByText := true, laidKinds := [.data], laidTests := true, laidLooks := .later }
def FrameGetsCardSaid : Prop := Claim7.holds Tryd.pinned (.plain (OpenSpec.ofChange frameGetsSpec)) frameGetsCard

/-- THE TIED CARD OF 'locumlaw03.FrameCuts'. -/
def frameCutsCard : Claim7 := { stood := { row := frameCutsRow, standIns := [], harness := (true, "aa4281aa5c5839899c6901a0b74f46f5be5075f8726d94ec1b09ab311595c700"), looks := false }, kinds := [], alts := [], laidByText := true, laidKinds := [.data], laidTests := true, laidLooks := .later }
def FrameCutsCardSaid : Prop := Claim7.holds Tryd.pinned (.plain (OpenSpec.ofChange frameCutsSpec)) frameCutsCard

/-- THE TIED CARD OF 'locumlaw03.FrameJoined'. -/
def frameJoinedCard : Claim7 := { stood := { row := frameJoinedRow, standIns := [], harness := (true, "aa4281aa5c5839899c6901a0b74f46f5be5075f8726d94ec1b09ab311595c700"), looks := false }, kinds := [], alts := [], laidByText := true, laidKinds := [.data], laidTests := true, laidLooks := .later }
def FrameJoinedCardSaid : Prop := Claim7.holds Tryd.pinned (.plain (OpenSpec.ofChange frameJoinedSpec)) frameJoinedCard

/-- THE TIED CARD OF 'locumlaw06.JournalLost'. -/
def journalLostCard : Claim7 := { stood := { row := journalLostRow, standIns := [], harness := (true, "aa4281aa5c5839899c6901a0b74f46f5be5075f8726d94ec1b09ab311595c700"), looks := false }, kinds := [], alts := [], laidByText := true, laidKinds := [.data], laidTests := true, laidLooks := .later }
def JournalLostCardSaid : Prop := Claim7.holds Tryd.pinned (.plain (OpenSpec.ofChange journalLostSpec)) journalLostCard

/-- THE TIED CARD OF 'locumlaw06.JournalRecovers'. -/
def journalRecoversCard : Claim7 := { stood := { row := journalRecoversRow, standIns := [], harness := (true, "aa4281aa5c5839899c6901a0b74f46f5be5075f8726d94ec1b09ab311595c700"), looks := false }, kinds := [], alts := [], laidByText := true, laidKinds := [.data], laidTests := true, laidLooks := .later }
def JournalRecoversCardSaid : Prop := Claim7.holds Tryd.pinned (.plain (OpenSpec.ofChange journalRecoversSpec)) journalRecoversCard

/-- THE TIED CARD OF 'locumlaw06.JournalFuse'. -/
def journalFuseCard : Claim7 := { stood := { row := journalFuseRow, standIns := [], harness := (true, "aa4281aa5c5839899c6901a0b74f46f5be5075f8726d94ec1b09ab311595c700"), looks := false }, kinds := [], alts := [], laidByText := true, laidKinds := [.data], laidTests := true, laidLooks := .later }
def JournalFuseCardSaid : Prop := Claim7.holds Tryd.pinned (.plain (OpenSpec.ofChange journalFuseSpec)) journalFuseCard

/-- THE TIED CARD OF 'locumlaw06.JournalDown'. -/
def journalDownCard : Claim7 := { stood := { row := journalDownRow, standIns := [], harness := (true, "aa4281aa5c5839899c6901a0b74f46f5be5075f8726d94ec1b09ab311595c700"), looks := false }, kinds := [], alts := [], laidByText := true, laidKinds := [.data], laidTests := true, laidLooks := .later }
def JournalDownCardSaid : Prop := Claim7.holds Tryd.pinned (.plain (OpenSpec.ofChange journalDownSpec)) journalDownCard

/-- THE TIED CARD OF 'locumlaw06.JournalPlays'. -/
def journalPlaysCard : Claim7 := { stood := { row := journalPlaysRow, standIns := [], harness := (true, "aa4281aa5c5839899c6901a0b74f46f5be5075f8726d94ec1b09ab311595c700"), looks := false }, kinds := [], alts := [], laidByText := true, laidKinds := [.data], laidTests := true, laidLooks := .later }
def JournalPlaysCardSaid : Prop := Claim7.holds Tryd.pinned (.plain (OpenSpec.ofChange journalPlaysSpec)) journalPlaysCard

/-- THE SECOND FORM's CARD OF 'locumlaw02.CrcSums'. -/
def crcSumsUptoCard : Claim7 := { stood := { row := crcSumsUptoRow, standIns := [], harness := (true, "aa4281aa5c5839899c6901a0b74f46f5be5075f8726d94ec1b09ab311595c700"), looks := false }, kinds := [], alts := [], laidByText := true, laidKinds := [.data], laidTests := true, laidLooks := .later }
def CrcSumsUptoCardSaid : Prop := Claim7.holds Tryd.pinned (.plain (OpenSpec.upto crcSumsSpec)) crcSumsUptoCard

/-- THE SECOND FORM's CARD OF 'locumlaw02.CrcPieces'. -/
def crcPiecesUptoCard : Claim7 := { stood := { row := crcPiecesUptoRow, standIns := [], harness := (true, "aa4281aa5c5839899c6901a0b74f46f5be5075f8726d94ec1b09ab311595c700"), looks := false }, kinds := [], alts := [], laidByText := true, laidKinds := [.data], laidTests := true, laidLooks := .later }
def CrcPiecesUptoCardSaid : Prop := Claim7.holds Tryd.pinned (.plain (OpenSpec.upto crcPiecesSpec)) crcPiecesUptoCard

/-- THE SECOND FORM's CARD OF 'locumlaw02.CrcByte'. -/
def crcByteUptoCard : Claim7 := { stood := { row := crcByteUptoRow, standIns := [], harness := (true, "aa4281aa5c5839899c6901a0b74f46f5be5075f8726d94ec1b09ab311595c700"), looks := false }, kinds := [], alts := [], laidByText := true, laidKinds := [.data], laidTests := true, laidLooks := .later }
def CrcByteUptoCardSaid : Prop := Claim7.holds Tryd.pinned (.plain (OpenSpec.upto crcByteSpec)) crcByteUptoCard

/-- THE SECOND FORM's CARD OF 'locumlaw02.CrcThree'. -/
def crcThreeUptoCard : Claim7 := { stood := { row := crcThreeUptoRow, standIns := [], harness := (true, "aa4281aa5c5839899c6901a0b74f46f5be5075f8726d94ec1b09ab311595c700"), looks := false }, kinds := [], alts := [], laidByText := true, laidKinds := [.data], laidTests := true, laidLooks := .later }
def CrcThreeUptoCardSaid : Prop := Claim7.holds Tryd.pinned (.plain (OpenSpec.upto crcThreeSpec)) crcThreeUptoCard

/-- THE SECOND FORM's CARD OF 'locumlaw02.CrcBurst'. -/
def crcBurstUptoCard : Claim7 := { stood := { row := crcBurstUptoRow, standIns := [], harness := (true, "aa4281aa5c5839899c6901a0b74f46f5be5075f8726d94ec1b09ab311595c700"), looks := false }, kinds := [], alts := [], laidByText := true, laidKinds := [.data], laidTests := true, laidLooks := .later }
def CrcBurstUptoCardSaid : Prop := Claim7.holds Tryd.pinned (.plain (OpenSpec.upto crcBurstSpec)) crcBurstUptoCard

/-- THE SECOND FORM's CARD OF 'locumlaw02.CrcOwn'. -/
def crcOwnUptoCard : Claim7 := { stood := { row := crcOwnUptoRow, standIns := [], harness := (true, "aa4281aa5c5839899c6901a0b74f46f5be5075f8726d94ec1b09ab311595c700"), looks := false }, kinds := [], alts := [], laidByText := true, laidKinds := [.data], laidTests := true, laidLooks := .later }
def CrcOwnUptoCardSaid : Prop := Claim7.holds Tryd.pinned (.plain (OpenSpec.upto crcOwnSpec)) crcOwnUptoCard

/-- THE SECOND FORM's CARD OF 'locumlaw19.SplitTells'. -/
def splitTellsUptoCard : Claim7 := { stood := { row := splitTellsUptoRow, standIns := [], harness := (true, "aa4281aa5c5839899c6901a0b74f46f5be5075f8726d94ec1b09ab311595c700"), looks := false }, kinds := [], alts := [], laidByText := true, laidKinds := [.data], laidTests := true, laidLooks := .later }
def SplitTellsUptoCardSaid : Prop := Claim7.holds Tryd.pinned (.plain (OpenSpec.upto splitTellsSpec)) splitTellsUptoCard

/-- THE SECOND FORM's CARD OF 'locumlaw19.SplitMoves'. -/
def splitMovesUptoCard : Claim7 := { stood := { row := splitMovesUptoRow, standIns := [], harness := (true, "aa4281aa5c5839899c6901a0b74f46f5be5075f8726d94ec1b09ab311595c700"), looks := false }, kinds := [], alts := [], laidByText := true, laidKinds := [.data], laidTests := true, laidLooks := .later }
def SplitMovesUptoCardSaid : Prop := Claim7.holds Tryd.pinned (.plain (OpenSpec.upto splitMovesSpec)) splitMovesUptoCard

/-- THE SECOND FORM's CARD OF 'locumlaw19.SplitEnds'. -/
def splitEndsUptoCard : Claim7 := { stood := { row := splitEndsUptoRow, standIns := [], harness := (true, "aa4281aa5c5839899c6901a0b74f46f5be5075f8726d94ec1b09ab311595c700"), looks := false }, kinds := [], alts := [], laidByText := true, laidKinds := [.data], laidTests := true, laidLooks := .later }
def SplitEndsUptoCardSaid : Prop := Claim7.holds Tryd.pinned (.plain (OpenSpec.upto splitEndsSpec)) splitEndsUptoCard

/-- THE SECOND FORM's CARD OF 'locumlaw19.SplitSame'. -/
def splitSameUptoCard : Claim7 := { stood := { row := splitSameUptoRow, standIns := [], harness := (true, "aa4281aa5c5839899c6901a0b74f46f5be5075f8726d94ec1b09ab311595c700"), looks := false }, kinds := [], alts := [], laidByText := true, laidKinds := [.data], laidTests := true, laidLooks := .later }
def SplitSameUptoCardSaid : Prop := Claim7.holds Tryd.pinned (.plain (OpenSpec.upto splitSameSpec)) splitSameUptoCard

/-- THE SECOND FORM's CARD OF 'locumlaw03.FramePuts'. -/
def framePutsUptoCard : Claim7 := { stood := { row := framePutsUptoRow, standIns := [], harness := (true, "aa4281aa5c5839899c6901a0b74f46f5be5075f8726d94ec1b09ab311595c700"), looks := false }, kinds := [], alts := [], laidByText := true, laidKinds := [.data], laidTests := true, laidLooks := .later }
def FramePutsUptoCardSaid : Prop := Claim7.holds Tryd.pinned (.plain (OpenSpec.upto framePutsSpec)) framePutsUptoCard

/-- THE SECOND FORM's CARD OF 'locumlaw03.FrameBack'. -/
def frameBackUptoCard : Claim7 := { stood := { row := frameBackUptoRow, standIns := [], harness := (true, "aa4281aa5c5839899c6901a0b74f46f5be5075f8726d94ec1b09ab311595c700"), looks := false }, kinds := [], alts := [], laidByText := true, laidKinds := [.data], laidTests := true, laidLooks := .later }
def FrameBackUptoCardSaid : Prop := Claim7.holds Tryd.pinned (.plain (OpenSpec.upto frameBackSpec)) frameBackUptoCard

/-- THE SECOND FORM's CARD OF 'locumlaw03.FrameSpoilt'. -/
def frameSpoiltUptoCard : Claim7 := { stood := { row := frameSpoiltUptoRow, standIns := [], harness := (true, "aa4281aa5c5839899c6901a0b74f46f5be5075f8726d94ec1b09ab311595c700"), looks := false }, kinds := [], alts := [], laidByText := true, laidKinds := [.data], laidTests := true, laidLooks := .later }
def FrameSpoiltUptoCardSaid : Prop := Claim7.holds Tryd.pinned (.plain (OpenSpec.upto frameSpoiltSpec)) frameSpoiltUptoCard

/-- THE SECOND FORM's CARD OF 'locumlaw03.FrameSizes'. -/
def frameSizesUptoCard : Claim7 := { stood := { row := frameSizesUptoRow, standIns := [], harness := (true, "aa4281aa5c5839899c6901a0b74f46f5be5075f8726d94ec1b09ab311595c700"), looks := false }, kinds := [], alts := [], laidByText := true, laidKinds := [.data], laidTests := true, laidLooks := .later }
def FrameSizesUptoCardSaid : Prop := Claim7.holds Tryd.pinned (.plain (OpenSpec.upto frameSizesSpec)) frameSizesUptoCard

/-- THE SECOND FORM's CARD OF 'locumlaw21.RouteTells'. -/
def routeTellsUptoCard : Claim7 := { stood := { row := routeTellsUptoRow, standIns := [], harness := (true, "aa4281aa5c5839899c6901a0b74f46f5be5075f8726d94ec1b09ab311595c700"), looks := false }, kinds := [], alts := [], laidByText := true, laidKinds := [.data], laidTests := true, laidLooks := .later }
def RouteTellsUptoCardSaid : Prop := Claim7.holds Tryd.pinned (.plain (OpenSpec.upto routeTellsSpec)) routeTellsUptoCard

/-- THE SECOND FORM's CARD OF 'locumlaw21.RouteNamed'. -/
def routeNamedUptoCard : Claim7 := { stood := { row := routeNamedUptoRow, standIns := [], harness := (true, "aa4281aa5c5839899c6901a0b74f46f5be5075f8726d94ec1b09ab311595c700"), looks := false }, kinds := [], alts := [], laidByText := true, laidKinds := [.data], laidTests := true, laidLooks := .later }
def RouteNamedUptoCardSaid : Prop := Claim7.holds Tryd.pinned (.plain (OpenSpec.upto routeNamedSpec)) routeNamedUptoCard

/-- THE SECOND FORM's CARD OF 'locumlaw21.RouteAll'. -/
def routeAllUptoCard : Claim7 := { stood := { row := routeAllUptoRow, standIns := [], harness := (true, "aa4281aa5c5839899c6901a0b74f46f5be5075f8726d94ec1b09ab311595c700"), looks := false }, kinds := [], alts := [], laidByText := true, laidKinds := [.data], laidTests := true, laidLooks := .later }
def RouteAllUptoCardSaid : Prop := Claim7.holds Tryd.pinned (.plain (OpenSpec.upto routeAllSpec)) routeAllUptoCard

/-- THE SECOND FORM's CARD OF 'locumlaw21.RouteFirst'. -/
def routeFirstUptoCard : Claim7 := { stood := { row := routeFirstUptoRow, standIns := [], harness := (true, "aa4281aa5c5839899c6901a0b74f46f5be5075f8726d94ec1b09ab311595c700"), looks := false }, kinds := [], alts := [], laidByText := true, laidKinds := [.data], laidTests := true, laidLooks := .later }
def RouteFirstUptoCardSaid : Prop := Claim7.holds Tryd.pinned (.plain (OpenSpec.upto routeFirstSpec)) routeFirstUptoCard

/-- THE SECOND FORM's CARD OF 'locumlaw03.FrameGets'. -/
def frameGetsUptoCard : Claim7 := { stood := { row := frameGetsUptoRow, standIns := [], harness := (true, "aa4281aa5c5839899c6901a0b74f46f5be5075f8726d94ec1b09ab311595c700"), looks := false }, kinds := [], alts := [], laidByText := true, laidKinds := [.data], laidTests := true, laidLooks := .later }
def FrameGetsUptoCardSaid : Prop := Claim7.holds Tryd.pinned (.plain (OpenSpec.upto frameGetsSpec)) frameGetsUptoCard

/-- THE SECOND FORM's CARD OF 'locumlaw03.FrameCuts'. -/
def frameCutsUptoCard : Claim7 := { stood := { row := frameCutsUptoRow, standIns := [], harness := (true, "aa4281aa5c5839899c6901a0b74f46f5be5075f8726d94ec1b09ab311595c700"), looks := false }, kinds := [], alts := [], laidByText := true, laidKinds := [.data], laidTests := true, laidLooks := .later }
def FrameCutsUptoCardSaid : Prop := Claim7.holds Tryd.pinned (.plain (OpenSpec.upto frameCutsSpec)) frameCutsUptoCard

/-- THE SECOND FORM's CARD OF 'locumlaw03.FrameJoined'. -/
def frameJoinedUptoCard : Claim7 := { stood := { row := frameJoinedUptoRow, standIns := [], harness := (true, "aa4281aa5c5839899c6901a0b74f46f5be5075f8726d94ec1b09ab311595c700"), looks := false }, kinds := [], alts := [], laidByText := true, laidKinds := [.data], laidTests := true, laidLooks := .later }
def FrameJoinedUptoCardSaid : Prop := Claim7.holds Tryd.pinned (.plain (OpenSpec.upto frameJoinedSpec)) frameJoinedUptoCard

/-- THE SECOND FORM's CARD OF 'locumlaw06.JournalLost'. -/
def journalLostUptoCard : Claim7 := { stood := { row := journalLostUptoRow, standIns := [], harness := (true, "aa4281aa5c5839899c6901a0b74f46f5be5075f8726d94ec1b09ab311595c700"), looks := false }, kinds := [], alts := [], laidByText := true, laidKinds := [.data], laidTests := true, laidLooks := .later }
def JournalLostUptoCardSaid : Prop := Claim7.holds Tryd.pinned (.plain (OpenSpec.upto journalLostSpec)) journalLostUptoCard

/-- THE SECOND FORM's CARD OF 'locumlaw06.JournalRecovers'. -/
def journalRecoversUptoCard : Claim7 := { stood := { row := journalRecoversUptoRow, standIns := [], harness := (true, "aa4281aa5c5839899c6901a0b74f46f5be5075f8726d94ec1b09ab311595c700"), looks := false }, kinds := [], alts := [], laidByText := true, laidKinds := [.data], laidTests := true, laidLooks := .later }
def JournalRecoversUptoCardSaid : Prop := Claim7.holds Tryd.pinned (.plain (OpenSpec.upto journalRecoversSpec)) journalRecoversUptoCard

/-- THE SECOND FORM's CARD OF 'locumlaw06.JournalFuse'. -/
def journalFuseUptoCard : Claim7 := { stood := { row := journalFuseUptoRow, standIns := [], harness := (true, "aa4281aa5c5839899c6901a0b74f46f5be5075f8726d94ec1b09ab311595c700"), looks := false }, kinds := [], alts := [], laidByText := true, laidKinds := [.data], laidTests := true, laidLooks := .later }
def JournalFuseUptoCardSaid : Prop := Claim7.holds Tryd.pinned (.plain (OpenSpec.upto journalFuseSpec)) journalFuseUptoCard

/-- THE SECOND FORM's CARD OF 'locumlaw06.JournalDown'. -/
def journalDownUptoCard : Claim7 := { stood := { row := journalDownUptoRow, standIns := [], harness := (true, "aa4281aa5c5839899c6901a0b74f46f5be5075f8726d94ec1b09ab311595c700"), looks := false }, kinds := [], alts := [], laidByText := true, laidKinds := [.data], laidTests := true, laidLooks := .later }
def JournalDownUptoCardSaid : Prop := Claim7.holds Tryd.pinned (.plain (OpenSpec.upto journalDownSpec)) journalDownUptoCard

/-- THE SECOND FORM's CARD OF 'locumlaw06.JournalPlays'. -/
def journalPlaysUptoCard : Claim7 := { stood := { row := journalPlaysUptoRow, standIns := [], harness := (true, "aa4281aa5c5839899c6901a0b74f46f5be5075f8726d94ec1b09ab311595c700"), looks := false }, kinds := [], alts := [], laidByText := true, laidKinds := [.data], laidTests := true, laidLooks := .later }
def JournalPlaysUptoCardSaid : Prop := Claim7.holds Tryd.pinned (.plain (OpenSpec.upto journalPlaysSpec)) journalPlaysUptoCard
end Rows
end Go.Proofs.YtddcfgbembjbhaaDoor
