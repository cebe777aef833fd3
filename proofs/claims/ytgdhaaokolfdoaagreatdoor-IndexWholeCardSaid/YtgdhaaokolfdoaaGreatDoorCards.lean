/-
  DERIVED. GIVEN WITH THE SEED: THE CARDS: each row of YtgdhaaokolfdoaaGreatDoorRows.lean that lists a variable, with what it lists TIED to the program's text (the seventh form; the later family's looks); each row that meets fmt, with fmt's text TOLD by the authors' own Lean function (tested against real Go, not proved from fmt's source: count such statements apart). THE CARD IS WHAT COUNTS. Prove the row's statement (the work); the ties are given (YtgdhaaokolfdoaaGreatDoorTie.lean); close each card by the builder's one call (the guide's Derived/Test/ToyasCard.lean, 'card_holds'). Laid BY PROGRAM, IN A SANDBOX (cutbox-door.mjs). By AI agents, Wed Nov 11 2026. No macro, syntax, notation, axiom, sorry.
-/
import Derived.Test.YtgdhaaokolfdoaaGreatDoorRows
import GoSem.ClaimSeven
namespace Go.Proofs.YtgdhaaokolfdoaaGreatDoor
namespace Rows

/-- THE TIED CARD OF 'sgraffitolaw13.StoreFull'. -/
def storeFullCard : Claim7 := { stood := { row := storeFullRow, standIns := [], harness := (true, "e398d9c22f2f7fd5244c9c4088e24dc147c9b492cf57d8d70d9d24d47e8ca071"), looks := false }, kinds := [], alts := [], laidByText := true, laidKinds := [.data], laidTests := true, laidLooks := .later }
def StoreFullCardSaid : Prop := Claim7.holds Tryz.pinned (.plain (OpenSpec.ofChange storeFullSpec)) storeFullCard

/-- THE TIED CARD OF 'sgraffitolaw13.StoreErrors'. -/
def storeErrorsCard : Claim7 := { stood := { row := storeErrorsRow, standIns := [], harness := (true, "e398d9c22f2f7fd5244c9c4088e24dc147c9b492cf57d8d70d9d24d47e8ca071"), looks := false }, kinds := [], alts := [], laidByText := true, laidKinds := [.data], laidTests := true, laidLooks := .later }
def StoreErrorsCardSaid : Prop := Claim7.holds Tryz.pinned (.plain (OpenSpec.ofChange storeErrorsSpec)) storeErrorsCard

/-- THE TIED CARD OF 'sgraffitolaw13.StorePlans'. -/
def storePlansCard : Claim7 := { stood := { row := storePlansRow, standIns := [], harness := (true, "e398d9c22f2f7fd5244c9c4088e24dc147c9b492cf57d8d70d9d24d47e8ca071"), looks := false }, kinds := [], alts := [], laidByText := true, laidKinds := [.data], laidTests := true, laidLooks := .later }
def StorePlansCardSaid : Prop := Claim7.holds Tryz.pinned (.plain (OpenSpec.ofChange storePlansSpec)) storePlansCard

/-- THE TIED CARD OF 'sgraffitolaw13.StoreParts'. -/
def storePartsCard : Claim7 := { stood := { row := storePartsRow, standIns := [], harness := (true, "e398d9c22f2f7fd5244c9c4088e24dc147c9b492cf57d8d70d9d24d47e8ca071"), looks := false }, kinds := [], alts := [], laidByText := true, laidKinds := [.data], laidTests := true, laidLooks := .later }
def StorePartsCardSaid : Prop := Claim7.holds Tryz.pinned (.plain (OpenSpec.ofChange storePartsSpec)) storePartsCard

/-- THE TIED CARD OF 'sgraffitolaw13.StoreNil'. -/
def storeNilCard : Claim7 := { stood := { row := storeNilRow, standIns := [], harness := (true, "e398d9c22f2f7fd5244c9c4088e24dc147c9b492cf57d8d70d9d24d47e8ca071"), looks := false }, kinds := [], alts := [], laidByText := true, laidKinds := [.data], laidTests := true, laidLooks := .later }
def StoreNilCardSaid : Prop := Claim7.holds Tryz.pinned (.plain (OpenSpec.ofChange storeNilSpec)) storeNilCard

/-- THE TIED CARD OF 'sgraffitolaw13.StoreWhole'. -/
def storeWholeCard : Claim7 := { stood := { row := storeWholeRow, standIns := [], harness := (true, "e398d9c22f2f7fd5244c9c4088e24dc147c9b492cf57d8d70d9d24d47e8ca071"), looks := false }, kinds := [], alts := [], laidByText := true, laidKinds := [.data], laidTests := true, laidLooks := .later }
def StoreWholeCardSaid : Prop := Claim7.holds Tryz.pinned (.plain (OpenSpec.ofChange storeWholeSpec)) storeWholeCard

/-- THE TIED CARD OF 'sgraffitolaw15.DirApart'. -/
def dirApartCard : Claim7 := { stood := { row := dirApartRow, standIns := [], harness := (true, "e398d9c22f2f7fd5244c9c4088e24dc147c9b492cf57d8d70d9d24d47e8ca071"), looks := false }, kinds := [], alts := [], laidByText := true, laidKinds := [.data], laidTests := true, laidLooks := .later }
def DirApartCardSaid : Prop := Claim7.holds Tryz.pinned (.plain (OpenSpec.ofChange dirApartSpec)) dirApartCard

/-- THE TIED CARD OF 'sgraffitolaw15.DirNil'. -/
def dirNilCard : Claim7 := { stood := { row := dirNilRow, standIns := [], harness := (true, "e398d9c22f2f7fd5244c9c4088e24dc147c9b492cf57d8d70d9d24d47e8ca071"), looks := false }, kinds := [], alts := [], laidByText := true, laidKinds := [.data], laidTests := true, laidLooks := .later }
def DirNilCardSaid : Prop := Claim7.holds Tryz.pinned (.plain (OpenSpec.ofChange dirNilSpec)) dirNilCard

/-- THE TIED CARD OF 'sgraffitolaw15.DirPages'. -/
def dirPagesCard : Claim7 := { stood := { row := dirPagesRow, standIns := [], harness := (true, "e398d9c22f2f7fd5244c9c4088e24dc147c9b492cf57d8d70d9d24d47e8ca071"), looks := false }, kinds := [], alts := [], laidByText := true, laidKinds := [.data], laidTests := true, laidLooks := .later }
def DirPagesCardSaid : Prop := Claim7.holds Tryz.pinned (.plain (OpenSpec.ofChange dirPagesSpec)) dirPagesCard

/-- THE TIED CARD OF 'sgraffitolaw15.DirPlays'. -/
def dirPlaysCard : Claim7 := { stood := { row := dirPlaysRow, standIns := [], harness := (true, "e398d9c22f2f7fd5244c9c4088e24dc147c9b492cf57d8d70d9d24d47e8ca071"), looks := false }, kinds := [], alts := [], laidByText := true, laidKinds := [.data], laidTests := true, laidLooks := .later }
def DirPlaysCardSaid : Prop := Claim7.holds Tryz.pinned (.plain (OpenSpec.ofChange dirPlaysSpec)) dirPlaysCard

/-- THE TIED CARD OF 'sgraffitolaw17.IndexStale'. -/
def indexStaleCard : Claim7 := { stood := { row := indexStaleRow, standIns := [], harness := (true, "e398d9c22f2f7fd5244c9c4088e24dc147c9b492cf57d8d70d9d24d47e8ca071"), looks := false }, kinds := [], alts := [], laidByText := true, laidKinds := [.data], laidTests := true, laidLooks := .later }
def IndexStaleCardSaid : Prop := Claim7.holds Tryz.pinned (.plain (OpenSpec.ofChange indexStaleSpec)) indexStaleCard

/-- THE TIED CARD OF 'sgraffitolaw17.IndexKeeps'. -/
def indexKeepsCard : Claim7 := { stood := { row := indexKeepsRow, standIns := [], harness := (true, "e398d9c22f2f7fd5244c9c4088e24dc147c9b492cf57d8d70d9d24d47e8ca071"), looks := false }, kinds := [], alts := [], laidByText := true, laidKinds := [.data], laidTests := true, laidLooks := .later }
def IndexKeepsCardSaid : Prop := Claim7.holds Tryz.pinned (.plain (OpenSpec.ofChange indexKeepsSpec)) indexKeepsCard

/-- THE TIED CARD OF 'sgraffitolaw17.IndexDeep'. -/
def indexDeepCard : Claim7 := { stood := { row := indexDeepRow, standIns := [], harness := (true, "e398d9c22f2f7fd5244c9c4088e24dc147c9b492cf57d8d70d9d24d47e8ca071"), looks := false }, kinds := [], alts := [], laidByText := true, laidKinds := [.data], laidTests := true, laidLooks := .later }
def IndexDeepCardSaid : Prop := Claim7.holds Tryz.pinned (.plain (OpenSpec.ofChange indexDeepSpec)) indexDeepCard

/-- THE TIED CARD OF 'sgraffitolaw17.IndexShape'. -/
def indexShapeCard : Claim7 := { stood := { row := indexShapeRow, standIns := [], harness := (true, "e398d9c22f2f7fd5244c9c4088e24dc147c9b492cf57d8d70d9d24d47e8ca071"), looks := false }, kinds := [], alts := [], laidByText := true, laidKinds := [.data], laidTests := true, laidLooks := .later }
def IndexShapeCardSaid : Prop := Claim7.holds Tryz.pinned (.plain (OpenSpec.ofChange indexShapeSpec)) indexShapeCard

/-- THE TIED CARD OF 'sgraffitolaw17.IndexPlays'. -/
def indexPlaysCard : Claim7 := { stood := { row := indexPlaysRow, standIns := [], harness := (true, "e398d9c22f2f7fd5244c9c4088e24dc147c9b492cf57d8d70d9d24d47e8ca071"), looks := false }, kinds := [], alts := [], laidByText := true, laidKinds := [.data], laidTests := true, laidLooks := .later }
def IndexPlaysCardSaid : Prop := Claim7.holds Tryz.pinned (.plain (OpenSpec.ofChange indexPlaysSpec)) indexPlaysCard

/-- THE TIED CARD OF 'sgraffitolaw17.IndexWhole'. -/
def indexWholeCard : Claim7 := { stood := { row := indexWholeRow, standIns := [], harness := (true, "e398d9c22f2f7fd5244c9c4088e24dc147c9b492cf57d8d70d9d24d47e8ca071"), looks := false }, kinds := [], alts := [], laidByText := true, laidKinds := [.data], laidTests := true, laidLooks := .later }
def IndexWholeCardSaid : Prop := Claim7.holds Tryz.pinned (.plain (OpenSpec.ofChange indexWholeSpec)) indexWholeCard

/-- THE SECOND FORM's CARD OF 'sgraffitolaw13.StoreFull'. -/
def storeFullUptoCard : Claim7 := { stood := { row := storeFullUptoRow, standIns := [], harness := (true, "e398d9c22f2f7fd5244c9c4088e24dc147c9b492cf57d8d70d9d24d47e8ca071"), looks := false }, kinds := [], alts := [], laidByText := true, laidKinds := [.data], laidTests := true, laidLooks := .later }
def StoreFullUptoCardSaid : Prop := Claim7.holds Tryz.pinned (.plain (OpenSpec.upto storeFullSpec)) storeFullUptoCard

/-- THE SECOND FORM's CARD OF 'sgraffitolaw13.StoreErrors'. -/
def storeErrorsUptoCard : Claim7 := { stood := { row := storeErrorsUptoRow, standIns := [], harness := (true, "e398d9c22f2f7fd5244c9c4088e24dc147c9b492cf57d8d70d9d24d47e8ca071"), looks := false }, kinds := [], alts := [], laidByText := true, laidKinds := [.data], laidTests := true, laidLooks := .later }
def StoreErrorsUptoCardSaid : Prop := Claim7.holds Tryz.pinned (.plain (OpenSpec.upto storeErrorsSpec)) storeErrorsUptoCard

/-- THE SECOND FORM's CARD OF 'sgraffitolaw13.StorePlans'. -/
def storePlansUptoCard : Claim7 := { stood := { row := storePlansUptoRow, standIns := [], harness := (true, "e398d9c22f2f7fd5244c9c4088e24dc147c9b492cf57d8d70d9d24d47e8ca071"), looks := false }, kinds := [], alts := [], laidByText := true, laidKinds := [.data], laidTests := true, laidLooks := .later }
def StorePlansUptoCardSaid : Prop := Claim7.holds Tryz.pinned (.plain (OpenSpec.upto storePlansSpec)) storePlansUptoCard

/-- THE SECOND FORM's CARD OF 'sgraffitolaw13.StoreParts'. -/
def storePartsUptoCard : Claim7 := { stood := { row := storePartsUptoRow, standIns := [], harness := (true, "e398d9c22f2f7fd5244c9c4088e24dc147c9b492cf57d8d70d9d24d47e8ca071"), looks := false }, kinds := [], alts := [], laidByText := true, laidKinds := [.data], laidTests := true, laidLooks := .later }
def StorePartsUptoCardSaid : Prop := Claim7.holds Tryz.pinned (.plain (OpenSpec.upto storePartsSpec)) storePartsUptoCard

/-- THE SECOND FORM's CARD OF 'sgraffitolaw13.StoreNil'. -/
def storeNilUptoCard : Claim7 := { stood := { row := storeNilUptoRow, standIns := [], harness := (true, "e398d9c22f2f7fd5244c9c4088e24dc147c9b492cf57d8d70d9d24d47e8ca071"), looks := false }, kinds := [], alts := [], laidByText := true, laidKinds := [.data], laidTests := true, laidLooks := .later }
def StoreNilUptoCardSaid : Prop := Claim7.holds Tryz.pinned (.plain (OpenSpec.upto storeNilSpec)) storeNilUptoCard

/-- THE SECOND FORM's CARD OF 'sgraffitolaw13.StoreWhole'. -/
def storeWholeUptoCard : Claim7 := { stood := { row := storeWholeUptoRow, standIns := [], harness := (true, "e398d9c22f2f7fd5244c9c4088e24dc147c9b492cf57d8d70d9d24d47e8ca071"), looks := false }, kinds := [], alts := [], laidByText := true, laidKinds := [.data], laidTests := true, laidLooks := .later }
def StoreWholeUptoCardSaid : Prop := Claim7.holds Tryz.pinned (.plain (OpenSpec.upto storeWholeSpec)) storeWholeUptoCard

/-- THE SECOND FORM's CARD OF 'sgraffitolaw15.DirApart'. -/
def dirApartUptoCard : Claim7 := { stood := { row := dirApartUptoRow, standIns := [], harness := (true, "e398d9c22f2f7fd5244c9c4088e24dc147c9b492cf57d8d70d9d24d47e8ca071"), looks := false }, kinds := [], alts := [], laidByText := true, laidKinds := [.data], laidTests := true, laidLooks := .later }
def DirApartUptoCardSaid : Prop := Claim7.holds Tryz.pinned (.plain (OpenSpec.upto dirApartSpec)) dirApartUptoCard

/-- THE SECOND FORM's CARD OF 'sgraffitolaw15.DirNil'. -/
def dirNilUptoCard : Claim7 := { stood := { row := dirNilUptoRow, standIns := [], harness := (true, "e398d9c22f2f7fd5244c9c4088e24dc147c9b492cf57d8d70d9d24d47e8ca071"), looks := false }, kinds := [], alts := [], laidByText := true, laidKinds := [.data], laidTests := true, laidLooks := .later }
def DirNilUptoCardSaid : Prop := Claim7.holds Tryz.pinned (.plain (OpenSpec.upto dirNilSpec)) dirNilUptoCard

/-- THE SECOND FORM's CARD OF 'sgraffitolaw15.DirPages'. -/
def dirPagesUptoCard : Claim7 := { stood := { row := dirPagesUptoRow, standIns := [], harness := (true, "e398d9c22f2f7fd5244c9c4088e24dc147c9b492cf57d8d70d9d24d47e8ca071"), looks := false }, kinds := [], alts := [], laidByText := true, laidKinds := [.data], laidTests := true, laidLooks := .later }
def DirPagesUptoCardSaid : Prop := Claim7.holds Tryz.pinned (.plain (OpenSpec.upto dirPagesSpec)) dirPagesUptoCard

/-- THE SECOND FORM's CARD OF 'sgraffitolaw15.DirPlays'. -/
def dirPlaysUptoCard : Claim7 := { stood := { row := dirPlaysUptoRow, standIns := [], harness := (true, "e398d9c22f2f7fd5244c9c4088e24dc147c9b492cf57d8d70d9d24d47e8ca071"), looks := false }, kinds := [], alts := [], laidByText := true, laidKinds := [.data], laidTests := true, laidLooks := .later }
def DirPlaysUptoCardSaid : Prop := Claim7.holds Tryz.pinned (.plain (OpenSpec.upto dirPlaysSpec)) dirPlaysUptoCard

/-- THE SECOND FORM's CARD OF 'sgraffitolaw17.IndexStale'. -/
def indexStaleUptoCard : Claim7 := { stood := { row := indexStaleUptoRow, standIns := [], harness := (true, "e398d9c22f2f7fd5244c9c4088e24dc147c9b492cf57d8d70d9d24d47e8ca071"), looks := false }, kinds := [], alts := [], laidByText := true, laidKinds := [.data], laidTests := true, laidLooks := .later }
def IndexStaleUptoCardSaid : Prop := Claim7.holds Tryz.pinned (.plain (OpenSpec.upto indexStaleSpec)) indexStaleUptoCard

/-- THE SECOND FORM's CARD OF 'sgraffitolaw17.IndexKeeps'. -/
def indexKeepsUptoCard : Claim7 := { stood := { row := indexKeepsUptoRow, standIns := [], harness := (true, "e398d9c22f2f7fd5244c9c4088e24dc147c9b492cf57d8d70d9d24d47e8ca071"), looks := false }, kinds := [], alts := [], laidByText := true, laidKinds := [.data], laidTests := true, laidLooks := .later }
def IndexKeepsUptoCardSaid : Prop := Claim7.holds Tryz.pinned (.plain (OpenSpec.upto indexKeepsSpec)) indexKeepsUptoCard

/-- THE SECOND FORM's CARD OF 'sgraffitolaw17.IndexDeep'. -/
def indexDeepUptoCard : Claim7 := { stood := { row := indexDeepUptoRow, standIns := [], harness := (true, "e398d9c22f2f7fd5244c9c4088e24dc147c9b492cf57d8d70d9d24d47e8ca071"), looks := false }, kinds := [], alts := [], laidByText := true, laidKinds := [.data], laidTests := true, laidLooks := .later }
def IndexDeepUptoCardSaid : Prop := Claim7.holds Tryz.pinned (.plain (OpenSpec.upto indexDeepSpec)) indexDeepUptoCard

/-- THE SECOND FORM's CARD OF 'sgraffitolaw17.IndexShape'. -/
def indexShapeUptoCard : Claim7 := { stood := { row := indexShapeUptoRow, standIns := [], harness := (true, "e398d9c22f2f7fd5244c9c4088e24dc147c9b492cf57d8d70d9d24d47e8ca071"), looks := false }, kinds := [], alts := [], laidByText := true, laidKinds := [.data], laidTests := true, laidLooks := .later }
def IndexShapeUptoCardSaid : Prop := Claim7.holds Tryz.pinned (.plain (OpenSpec.upto indexShapeSpec)) indexShapeUptoCard

/-- THE SECOND FORM's CARD OF 'sgraffitolaw17.IndexPlays'. -/
def indexPlaysUptoCard : Claim7 := { stood := { row := indexPlaysUptoRow, standIns := [], harness := (true, "e398d9c22f2f7fd5244c9c4088e24dc147c9b492cf57d8d70d9d24d47e8ca071"), looks := false }, kinds := [], alts := [], laidByText := true, laidKinds := [.data], laidTests := true, laidLooks := .later }
def IndexPlaysUptoCardSaid : Prop := Claim7.holds Tryz.pinned (.plain (OpenSpec.upto indexPlaysSpec)) indexPlaysUptoCard

/-- THE SECOND FORM's CARD OF 'sgraffitolaw17.IndexWhole'. -/
def indexWholeUptoCard : Claim7 := { stood := { row := indexWholeUptoRow, standIns := [], harness := (true, "e398d9c22f2f7fd5244c9c4088e24dc147c9b492cf57d8d70d9d24d47e8ca071"), looks := false }, kinds := [], alts := [], laidByText := true, laidKinds := [.data], laidTests := true, laidLooks := .later }
def IndexWholeUptoCardSaid : Prop := Claim7.holds Tryz.pinned (.plain (OpenSpec.upto indexWholeSpec)) indexWholeUptoCard
end Rows
end Go.Proofs.YtgdhaaokolfdoaaGreatDoor
