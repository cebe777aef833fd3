/-
  NARROWER THAN 'FOR EVERY INPUT', by the rows' own cells (each row's printed sentence says how): StoreFull: laid · StoreErrors: laid · StorePlans: laid · StoreParts: laid · StoreNil: laid · StoreWhole: laid · DirApart: laid · DirNil: laid · DirPages: laid · DirPlays: laid · IndexStale: laid · IndexKeeps: laid · IndexDeep: laid · IndexShape: laid · IndexPlays: laid · IndexWhole: laid.
  DERIVED. THE GIVEN ROWS OF THIS SEAT. 16 by the template 'for every input the law returns true; each argument reads behind the call as it read before'; 0 by the template 'total and deterministic' (their statements: YtgdhaaokolfdoaaGreatDoorTotals.lean).
  GIVEN WITH THE SEED: the statements are not yours to turn. If you find one false, say at which input.
  Laid BY PROGRAM, IN A SANDBOX (cutbox-rows.mjs): the forced cells as the released guide's own fill.sh prints them over the translation 0ef01ee82ded2c76… (all of the seat's roots in one cut). By AI agents, Wed Nov 11 2026. No macro, syntax, notation, axiom, sorry.
-/
import Derived.Test.YtgdhaaokolfdoaaGreatDoorChecked
import GoSem.Claim
import GoSem.ClaimJoined
import GoSem.ClaimMapViews
import Derived.JoinedTies
import Derived.KernelRfl
namespace Go.Proofs.YtgdhaaokolfdoaaGreatDoor
/- THE CELL 'sum', in the pinned program and in every row, IS THE sha256 OF THE DUMP (.gsa) THAT YtgdhaaokolfdoaaGreatDoorProg.lean LOADS. Nothing in Lean hashes anything: it is a label: what it is worth is what the hold of that sum in a sandbox is worth. -/
noncomputable def Tryz.pinned : Pinned := { name := "ytgdhaaokolfdoaagreatdoor", sum := "0ef01ee82ded2c761db0190d690af9a5d98cb3b55d251aaaa61b8713f0574cfa", checked := Tryz.checked }
namespace Rows
def none {H : Type} : Left H := { results := [], args := [] }

/- WHAT THE LISTED PACKAGE-LEVEL VARIABLES READ AS WHEN THE CALL BEGINS. Each datum BY PROGRAM (the guide's laid-datum.mjs) off the statement by which the dump's own 'gosem.cut.vars' lays the variable. In a bare row this is a premise. The card (YtgdhaaokolfdoaaGreatDoorCards.lean) ties it to the program's text. -/
def laid_math_bits_deBruijn64tab {H : Type} : DataW H := .agg [.lit (.int .u8 0), .lit (.int .u8 1), .lit (.int .u8 56), .lit (.int .u8 2), .lit (.int .u8 57), .lit (.int .u8 49), .lit (.int .u8 28), .lit (.int .u8 3), .lit (.int .u8 61), .lit (.int .u8 58), .lit (.int .u8 42), .lit (.int .u8 50), .lit (.int .u8 38), .lit (.int .u8 29), .lit (.int .u8 17), .lit (.int .u8 4), .lit (.int .u8 62), .lit (.int .u8 47), .lit (.int .u8 59), .lit (.int .u8 36), .lit (.int .u8 45), .lit (.int .u8 43), .lit (.int .u8 51), .lit (.int .u8 22), .lit (.int .u8 53), .lit (.int .u8 39), .lit (.int .u8 33), .lit (.int .u8 30), .lit (.int .u8 24), .lit (.int .u8 18), .lit (.int .u8 12), .lit (.int .u8 5), .lit (.int .u8 63), .lit (.int .u8 55), .lit (.int .u8 48), .lit (.int .u8 27), .lit (.int .u8 60), .lit (.int .u8 41), .lit (.int .u8 37), .lit (.int .u8 16), .lit (.int .u8 46), .lit (.int .u8 35), .lit (.int .u8 44), .lit (.int .u8 21), .lit (.int .u8 52), .lit (.int .u8 32), .lit (.int .u8 23), .lit (.int .u8 11), .lit (.int .u8 54), .lit (.int .u8 26), .lit (.int .u8 40), .lit (.int .u8 15), .lit (.int .u8 34), .lit (.int .u8 20), .lit (.int .u8 31), .lit (.int .u8 10), .lit (.int .u8 25), .lit (.int .u8 14), .lit (.int .u8 19), .lit (.int .u8 9), .lit (.int .u8 13), .lit (.int .u8 8), .lit (.int .u8 7), .lit (.int .u8 6)]

/-- 'sgraffitolaw13.StoreFull': WHATEVER THE INPUT: true; the input reads as it did. -/
def storeFullSpec : ChangeSpec := { name := "storeFull", fn := fun _ => fun
  | [d] => { results := [.lit (.bool true)], args := [d] }
  | _ => none }
def storeFullRow : OpenClaim := { program := "ytgdhaaokolfdoaagreatdoor", sum := "0ef01ee82ded2c761db0190d690af9a5d98cb3b55d251aaaa61b8713f0574cfa", func := "sgraffito/sgraffitolaw13.StoreFull", spec := "storeFull", unfollowed := true, recurses := true, named := ["math/bits.deBruijn64tab"], apart := false, laid := [("math/bits.deBruijn64tab", laid_math_bits_deBruijn64tab)] }
def StoreFullSaid : Prop := storeFullRow.holds Tryz.pinned (OpenSpec.ofChange storeFullSpec)

/-- ITS FALSE NEIGHBOUR: 'it returns false'. Refute it at one input. -/
def storeFullWrong : ChangeSpec := { name := "storeFull", fn := fun _ => fun
  | [d] => { results := [.lit (.bool false)], args := [d] }
  | _ => none }
def StoreFullWrongFalsely : Prop := storeFullRow.holds Tryz.pinned (OpenSpec.ofChange storeFullWrong)

/-- 'sgraffitolaw13.StoreErrors': WHATEVER THE INPUT: true; the input reads as it did. -/
def storeErrorsSpec : ChangeSpec := { name := "storeErrors", fn := fun _ => fun
  | [d1, d2, d3] => { results := [.lit (.bool true)], args := [d1, d2, d3] }
  | _ => none }
def storeErrorsRow : OpenClaim := { program := "ytgdhaaokolfdoaagreatdoor", sum := "0ef01ee82ded2c761db0190d690af9a5d98cb3b55d251aaaa61b8713f0574cfa", func := "sgraffito/sgraffitolaw13.StoreErrors", spec := "storeErrors", unfollowed := true, recurses := true, named := ["math/bits.deBruijn64tab"], apart := false, laid := [("math/bits.deBruijn64tab", laid_math_bits_deBruijn64tab)] }
def StoreErrorsSaid : Prop := storeErrorsRow.holds Tryz.pinned (OpenSpec.ofChange storeErrorsSpec)

/-- ITS FALSE NEIGHBOUR: 'it returns false'. Refute it at one input. -/
def storeErrorsWrong : ChangeSpec := { name := "storeErrors", fn := fun _ => fun
  | [d1, d2, d3] => { results := [.lit (.bool false)], args := [d1, d2, d3] }
  | _ => none }
def StoreErrorsWrongFalsely : Prop := storeErrorsRow.holds Tryz.pinned (OpenSpec.ofChange storeErrorsWrong)

/-- 'sgraffitolaw13.StorePlans': WHATEVER THE INPUT: true; the input reads as it did. -/
def storePlansSpec : ChangeSpec := { name := "storePlans", fn := fun _ => fun
  | [d1, d2] => { results := [.lit (.bool true)], args := [d1, d2] }
  | _ => none }
def storePlansRow : OpenClaim := { program := "ytgdhaaokolfdoaagreatdoor", sum := "0ef01ee82ded2c761db0190d690af9a5d98cb3b55d251aaaa61b8713f0574cfa", func := "sgraffito/sgraffitolaw13.StorePlans", spec := "storePlans", unfollowed := true, recurses := true, named := ["math/bits.deBruijn64tab"], apart := false, laid := [("math/bits.deBruijn64tab", laid_math_bits_deBruijn64tab)] }
def StorePlansSaid : Prop := storePlansRow.holds Tryz.pinned (OpenSpec.ofChange storePlansSpec)

/-- ITS FALSE NEIGHBOUR: 'it returns false'. Refute it at one input. -/
def storePlansWrong : ChangeSpec := { name := "storePlans", fn := fun _ => fun
  | [d1, d2] => { results := [.lit (.bool false)], args := [d1, d2] }
  | _ => none }
def StorePlansWrongFalsely : Prop := storePlansRow.holds Tryz.pinned (OpenSpec.ofChange storePlansWrong)

/-- 'sgraffitolaw13.StoreParts': WHATEVER THE INPUT: true; the input reads as it did. -/
def storePartsSpec : ChangeSpec := { name := "storeParts", fn := fun _ => fun
  | [d] => { results := [.lit (.bool true)], args := [d] }
  | _ => none }
def storePartsRow : OpenClaim := { program := "ytgdhaaokolfdoaagreatdoor", sum := "0ef01ee82ded2c761db0190d690af9a5d98cb3b55d251aaaa61b8713f0574cfa", func := "sgraffito/sgraffitolaw13.StoreParts", spec := "storeParts", unfollowed := true, recurses := true, named := ["math/bits.deBruijn64tab"], apart := false, laid := [("math/bits.deBruijn64tab", laid_math_bits_deBruijn64tab)] }
def StorePartsSaid : Prop := storePartsRow.holds Tryz.pinned (OpenSpec.ofChange storePartsSpec)

/-- ITS FALSE NEIGHBOUR: 'it returns false'. Refute it at one input. -/
def storePartsWrong : ChangeSpec := { name := "storeParts", fn := fun _ => fun
  | [d] => { results := [.lit (.bool false)], args := [d] }
  | _ => none }
def StorePartsWrongFalsely : Prop := storePartsRow.holds Tryz.pinned (OpenSpec.ofChange storePartsWrong)

/-- 'sgraffitolaw13.StoreNil': WHATEVER THE INPUT: true; the input reads as it did. -/
def storeNilSpec : ChangeSpec := { name := "storeNil", fn := fun _ => fun
  | [d] => { results := [.lit (.bool true)], args := [d] }
  | _ => none }
def storeNilRow : OpenClaim := { program := "ytgdhaaokolfdoaagreatdoor", sum := "0ef01ee82ded2c761db0190d690af9a5d98cb3b55d251aaaa61b8713f0574cfa", func := "sgraffito/sgraffitolaw13.StoreNil", spec := "storeNil", unfollowed := true, recurses := true, named := ["math/bits.deBruijn64tab"], apart := false, laid := [("math/bits.deBruijn64tab", laid_math_bits_deBruijn64tab)] }
def StoreNilSaid : Prop := storeNilRow.holds Tryz.pinned (OpenSpec.ofChange storeNilSpec)

/-- ITS FALSE NEIGHBOUR: 'it returns false'. Refute it at one input. -/
def storeNilWrong : ChangeSpec := { name := "storeNil", fn := fun _ => fun
  | [d] => { results := [.lit (.bool false)], args := [d] }
  | _ => none }
def StoreNilWrongFalsely : Prop := storeNilRow.holds Tryz.pinned (OpenSpec.ofChange storeNilWrong)

/-- 'sgraffitolaw13.StoreWhole': WHATEVER THE INPUT: true; the input reads as it did. -/
def storeWholeSpec : ChangeSpec := { name := "storeWhole", fn := fun _ => fun
  | [d] => { results := [.lit (.bool true)], args := [d] }
  | _ => none }
def storeWholeRow : OpenClaim := { program := "ytgdhaaokolfdoaagreatdoor", sum := "0ef01ee82ded2c761db0190d690af9a5d98cb3b55d251aaaa61b8713f0574cfa", func := "sgraffito/sgraffitolaw13.StoreWhole", spec := "storeWhole", unfollowed := true, recurses := true, named := ["math/bits.deBruijn64tab"], apart := false, laid := [("math/bits.deBruijn64tab", laid_math_bits_deBruijn64tab)] }
def StoreWholeSaid : Prop := storeWholeRow.holds Tryz.pinned (OpenSpec.ofChange storeWholeSpec)

/-- ITS FALSE NEIGHBOUR: 'it returns false'. Refute it at one input. -/
def storeWholeWrong : ChangeSpec := { name := "storeWhole", fn := fun _ => fun
  | [d] => { results := [.lit (.bool false)], args := [d] }
  | _ => none }
def StoreWholeWrongFalsely : Prop := storeWholeRow.holds Tryz.pinned (OpenSpec.ofChange storeWholeWrong)

/-- 'sgraffitolaw15.DirApart': WHATEVER THE INPUT: true; the input reads as it did. -/
def dirApartSpec : ChangeSpec := { name := "dirApart", fn := fun _ => fun
  | [d] => { results := [.lit (.bool true)], args := [d] }
  | _ => none }
def dirApartRow : OpenClaim := { program := "ytgdhaaokolfdoaagreatdoor", sum := "0ef01ee82ded2c761db0190d690af9a5d98cb3b55d251aaaa61b8713f0574cfa", func := "sgraffito/sgraffitolaw15.DirApart", spec := "dirApart", unfollowed := true, recurses := true, named := ["math/bits.deBruijn64tab"], apart := false, laid := [("math/bits.deBruijn64tab", laid_math_bits_deBruijn64tab)] }
def DirApartSaid : Prop := dirApartRow.holds Tryz.pinned (OpenSpec.ofChange dirApartSpec)

/-- ITS FALSE NEIGHBOUR: 'it returns false'. Refute it at one input. -/
def dirApartWrong : ChangeSpec := { name := "dirApart", fn := fun _ => fun
  | [d] => { results := [.lit (.bool false)], args := [d] }
  | _ => none }
def DirApartWrongFalsely : Prop := dirApartRow.holds Tryz.pinned (OpenSpec.ofChange dirApartWrong)

/-- 'sgraffitolaw15.DirNil': WHATEVER THE INPUT: true; the input reads as it did. -/
def dirNilSpec : ChangeSpec := { name := "dirNil", fn := fun _ => fun
  | [d1, d2] => { results := [.lit (.bool true)], args := [d1, d2] }
  | _ => none }
def dirNilRow : OpenClaim := { program := "ytgdhaaokolfdoaagreatdoor", sum := "0ef01ee82ded2c761db0190d690af9a5d98cb3b55d251aaaa61b8713f0574cfa", func := "sgraffito/sgraffitolaw15.DirNil", spec := "dirNil", unfollowed := true, recurses := true, named := ["math/bits.deBruijn64tab"], apart := false, laid := [("math/bits.deBruijn64tab", laid_math_bits_deBruijn64tab)] }
def DirNilSaid : Prop := dirNilRow.holds Tryz.pinned (OpenSpec.ofChange dirNilSpec)

/-- ITS FALSE NEIGHBOUR: 'it returns false'. Refute it at one input. -/
def dirNilWrong : ChangeSpec := { name := "dirNil", fn := fun _ => fun
  | [d1, d2] => { results := [.lit (.bool false)], args := [d1, d2] }
  | _ => none }
def DirNilWrongFalsely : Prop := dirNilRow.holds Tryz.pinned (OpenSpec.ofChange dirNilWrong)

/-- 'sgraffitolaw15.DirPages': WHATEVER THE INPUT: true; the input reads as it did. -/
def dirPagesSpec : ChangeSpec := { name := "dirPages", fn := fun _ => fun
  | [d] => { results := [.lit (.bool true)], args := [d] }
  | _ => none }
def dirPagesRow : OpenClaim := { program := "ytgdhaaokolfdoaagreatdoor", sum := "0ef01ee82ded2c761db0190d690af9a5d98cb3b55d251aaaa61b8713f0574cfa", func := "sgraffito/sgraffitolaw15.DirPages", spec := "dirPages", unfollowed := true, recurses := true, named := ["math/bits.deBruijn64tab"], apart := false, laid := [("math/bits.deBruijn64tab", laid_math_bits_deBruijn64tab)] }
def DirPagesSaid : Prop := dirPagesRow.holds Tryz.pinned (OpenSpec.ofChange dirPagesSpec)

/-- ITS FALSE NEIGHBOUR: 'it returns false'. Refute it at one input. -/
def dirPagesWrong : ChangeSpec := { name := "dirPages", fn := fun _ => fun
  | [d] => { results := [.lit (.bool false)], args := [d] }
  | _ => none }
def DirPagesWrongFalsely : Prop := dirPagesRow.holds Tryz.pinned (OpenSpec.ofChange dirPagesWrong)

/-- 'sgraffitolaw15.DirPlays': WHATEVER THE INPUT: true; the input reads as it did. -/
def dirPlaysSpec : ChangeSpec := { name := "dirPlays", fn := fun _ => fun
  | [d1, d2] => { results := [.lit (.bool true)], args := [d1, d2] }
  | _ => none }
def dirPlaysRow : OpenClaim := { program := "ytgdhaaokolfdoaagreatdoor", sum := "0ef01ee82ded2c761db0190d690af9a5d98cb3b55d251aaaa61b8713f0574cfa", func := "sgraffito/sgraffitolaw15.DirPlays", spec := "dirPlays", unfollowed := true, recurses := true, named := ["math/bits.deBruijn64tab"], apart := false, laid := [("math/bits.deBruijn64tab", laid_math_bits_deBruijn64tab)] }
def DirPlaysSaid : Prop := dirPlaysRow.holds Tryz.pinned (OpenSpec.ofChange dirPlaysSpec)

/-- ITS FALSE NEIGHBOUR: 'it returns false'. Refute it at one input. -/
def dirPlaysWrong : ChangeSpec := { name := "dirPlays", fn := fun _ => fun
  | [d1, d2] => { results := [.lit (.bool false)], args := [d1, d2] }
  | _ => none }
def DirPlaysWrongFalsely : Prop := dirPlaysRow.holds Tryz.pinned (OpenSpec.ofChange dirPlaysWrong)

/-- 'sgraffitolaw17.IndexStale': WHATEVER THE INPUT: true; the input reads as it did. -/
def indexStaleSpec : ChangeSpec := { name := "indexStale", fn := fun _ => fun
  | [d] => { results := [.lit (.bool true)], args := [d] }
  | _ => none }
def indexStaleRow : OpenClaim := { program := "ytgdhaaokolfdoaagreatdoor", sum := "0ef01ee82ded2c761db0190d690af9a5d98cb3b55d251aaaa61b8713f0574cfa", func := "sgraffito/sgraffitolaw17.IndexStale", spec := "indexStale", inPlace := ["slices.overlaps[sgraffito/bucket.Entry]"], unfollowed := true, recurses := true, named := ["math/bits.deBruijn64tab"], apart := false, laid := [("math/bits.deBruijn64tab", laid_math_bits_deBruijn64tab)] }
def IndexStaleSaid : Prop := indexStaleRow.holds Tryz.pinned (OpenSpec.ofChange indexStaleSpec)

/-- ITS FALSE NEIGHBOUR: 'it returns false'. Refute it at one input. -/
def indexStaleWrong : ChangeSpec := { name := "indexStale", fn := fun _ => fun
  | [d] => { results := [.lit (.bool false)], args := [d] }
  | _ => none }
def IndexStaleWrongFalsely : Prop := indexStaleRow.holds Tryz.pinned (OpenSpec.ofChange indexStaleWrong)

/-- 'sgraffitolaw17.IndexKeeps': WHATEVER THE INPUT: true; the input reads as it did. -/
def indexKeepsSpec : ChangeSpec := { name := "indexKeeps", fn := fun _ => fun
  | [d] => { results := [.lit (.bool true)], args := [d] }
  | _ => none }
def indexKeepsRow : OpenClaim := { program := "ytgdhaaokolfdoaagreatdoor", sum := "0ef01ee82ded2c761db0190d690af9a5d98cb3b55d251aaaa61b8713f0574cfa", func := "sgraffito/sgraffitolaw17.IndexKeeps", spec := "indexKeeps", inPlace := ["slices.overlaps[sgraffito/bucket.Entry]"], unfollowed := true, recurses := true, named := ["math/bits.deBruijn64tab"], apart := false, laid := [("math/bits.deBruijn64tab", laid_math_bits_deBruijn64tab)] }
def IndexKeepsSaid : Prop := indexKeepsRow.holds Tryz.pinned (OpenSpec.ofChange indexKeepsSpec)

/-- ITS FALSE NEIGHBOUR: 'it returns false'. Refute it at one input. -/
def indexKeepsWrong : ChangeSpec := { name := "indexKeeps", fn := fun _ => fun
  | [d] => { results := [.lit (.bool false)], args := [d] }
  | _ => none }
def IndexKeepsWrongFalsely : Prop := indexKeepsRow.holds Tryz.pinned (OpenSpec.ofChange indexKeepsWrong)

/-- 'sgraffitolaw17.IndexDeep': WHATEVER THE INPUT: true; the input reads as it did. -/
def indexDeepSpec : ChangeSpec := { name := "indexDeep", fn := fun _ => fun
  | [d] => { results := [.lit (.bool true)], args := [d] }
  | _ => none }
def indexDeepRow : OpenClaim := { program := "ytgdhaaokolfdoaagreatdoor", sum := "0ef01ee82ded2c761db0190d690af9a5d98cb3b55d251aaaa61b8713f0574cfa", func := "sgraffito/sgraffitolaw17.IndexDeep", spec := "indexDeep", inPlace := ["slices.overlaps[sgraffito/bucket.Entry]"], unfollowed := true, recurses := true, named := ["math/bits.deBruijn64tab"], apart := false, laid := [("math/bits.deBruijn64tab", laid_math_bits_deBruijn64tab)] }
def IndexDeepSaid : Prop := indexDeepRow.holds Tryz.pinned (OpenSpec.ofChange indexDeepSpec)

/-- ITS FALSE NEIGHBOUR: 'it returns false'. Refute it at one input. -/
def indexDeepWrong : ChangeSpec := { name := "indexDeep", fn := fun _ => fun
  | [d] => { results := [.lit (.bool false)], args := [d] }
  | _ => none }
def IndexDeepWrongFalsely : Prop := indexDeepRow.holds Tryz.pinned (OpenSpec.ofChange indexDeepWrong)

/-- 'sgraffitolaw17.IndexShape': WHATEVER THE INPUT: true; the input reads as it did. -/
def indexShapeSpec : ChangeSpec := { name := "indexShape", fn := fun _ => fun
  | [d] => { results := [.lit (.bool true)], args := [d] }
  | _ => none }
def indexShapeRow : OpenClaim := { program := "ytgdhaaokolfdoaagreatdoor", sum := "0ef01ee82ded2c761db0190d690af9a5d98cb3b55d251aaaa61b8713f0574cfa", func := "sgraffito/sgraffitolaw17.IndexShape", spec := "indexShape", inPlace := ["slices.overlaps[sgraffito/bucket.Entry]"], unfollowed := true, recurses := true, named := ["math/bits.deBruijn64tab"], apart := false, laid := [("math/bits.deBruijn64tab", laid_math_bits_deBruijn64tab)] }
def IndexShapeSaid : Prop := indexShapeRow.holds Tryz.pinned (OpenSpec.ofChange indexShapeSpec)

/-- ITS FALSE NEIGHBOUR: 'it returns false'. Refute it at one input. -/
def indexShapeWrong : ChangeSpec := { name := "indexShape", fn := fun _ => fun
  | [d] => { results := [.lit (.bool false)], args := [d] }
  | _ => none }
def IndexShapeWrongFalsely : Prop := indexShapeRow.holds Tryz.pinned (OpenSpec.ofChange indexShapeWrong)

/-- 'sgraffitolaw17.IndexPlays': WHATEVER THE INPUT: true; the input reads as it did. -/
def indexPlaysSpec : ChangeSpec := { name := "indexPlays", fn := fun _ => fun
  | [d] => { results := [.lit (.bool true)], args := [d] }
  | _ => none }
def indexPlaysRow : OpenClaim := { program := "ytgdhaaokolfdoaagreatdoor", sum := "0ef01ee82ded2c761db0190d690af9a5d98cb3b55d251aaaa61b8713f0574cfa", func := "sgraffito/sgraffitolaw17.IndexPlays", spec := "indexPlays", inPlace := ["slices.overlaps[sgraffito/bucket.Entry]"], unfollowed := true, recurses := true, named := ["math/bits.deBruijn64tab"], apart := false, laid := [("math/bits.deBruijn64tab", laid_math_bits_deBruijn64tab)] }
def IndexPlaysSaid : Prop := indexPlaysRow.holds Tryz.pinned (OpenSpec.ofChange indexPlaysSpec)

/-- ITS FALSE NEIGHBOUR: 'it returns false'. Refute it at one input. -/
def indexPlaysWrong : ChangeSpec := { name := "indexPlays", fn := fun _ => fun
  | [d] => { results := [.lit (.bool false)], args := [d] }
  | _ => none }
def IndexPlaysWrongFalsely : Prop := indexPlaysRow.holds Tryz.pinned (OpenSpec.ofChange indexPlaysWrong)

/-- 'sgraffitolaw17.IndexWhole': WHATEVER THE INPUT: true; the input reads as it did. -/
def indexWholeSpec : ChangeSpec := { name := "indexWhole", fn := fun _ => fun
  | [d] => { results := [.lit (.bool true)], args := [d] }
  | _ => none }
def indexWholeRow : OpenClaim := { program := "ytgdhaaokolfdoaagreatdoor", sum := "0ef01ee82ded2c761db0190d690af9a5d98cb3b55d251aaaa61b8713f0574cfa", func := "sgraffito/sgraffitolaw17.IndexWhole", spec := "indexWhole", inPlace := ["slices.overlaps[sgraffito/bucket.Entry]"], unfollowed := true, recurses := true, named := ["math/bits.deBruijn64tab"], apart := false, laid := [("math/bits.deBruijn64tab", laid_math_bits_deBruijn64tab)] }
def IndexWholeSaid : Prop := indexWholeRow.holds Tryz.pinned (OpenSpec.ofChange indexWholeSpec)

/-- ITS FALSE NEIGHBOUR: 'it returns false'. Refute it at one input. -/
def indexWholeWrong : ChangeSpec := { name := "indexWhole", fn := fun _ => fun
  | [d] => { results := [.lit (.bool false)], args := [d] }
  | _ => none }
def IndexWholeWrongFalsely : Prop := indexWholeRow.holds Tryz.pinned (OpenSpec.ofChange indexWholeWrong)

/- THE SECOND FORM. 'bulk': how many values and letters a reading holds, each counted each time it is reached (what is shared counts as often as it is met; a slice's spare places count too). A statement '..UptoSaid' is the law's where the arguments, and the package variables that the reading takes, are together of bulk at most 1048576: NARROWER than '..Said'. Prove '..Said' where nothing that the law and all that it calls make is longer than what came in: it says more and counts as full. Else prove '..UptoSaid'. A law counts once. -/
mutual
def uptoBulk {H : Type} : DataW H → Nat
  | .lit (.string bytes) => bytes.length + 1
  | .lit _ => 1
  | .nil => 1
  | .ptr d => uptoBulk d + 1
  | .slice elems spare => uptoBulkAll elems + uptoBulkAll spare + 1
  | .agg parts => uptoBulkAll parts + 1
  | .iface _ d => uptoBulk d + 1
  | .map entries => uptoBulkEntries entries + 1
  | .held _ => 1
def uptoBulkAll {H : Type} : List (DataW H) → Nat
  | [] => 0
  | d :: r => uptoBulk d + uptoBulkAll r
def uptoBulkEntries {H : Type} : List (Lit × DataW H) → Nat
  | [] => 0
  | x :: r => uptoBulkEntry x + uptoBulkEntries r
def uptoBulkEntry {H : Type} : Lit × DataW H → Nat
  | (.string bytes, d) => bytes.length + uptoBulk d + 1
  | (_, d) => uptoBulk d + 1
 end
def uptoSmall : (H : Type) → List (DataW H) → Bool := fun _ ds => decide (uptoBulkAll ds ≤ 1048576)
def OpenSpec.upto (s : _root_.Go.ChangeSpec) : _root_.Go.OpenSpec := { _root_.Go.OpenSpec.ofChange s with cond := some uptoSmall }

/-- 'sgraffitolaw13.StoreFull', WHERE WHAT IT READS IS OF BULK AT MOST 1048576: true; the input reads as it did. -/
def storeFullUptoRow : OpenClaim := { program := "ytgdhaaokolfdoaagreatdoor", sum := "0ef01ee82ded2c761db0190d690af9a5d98cb3b55d251aaaa61b8713f0574cfa", func := "sgraffito/sgraffitolaw13.StoreFull", spec := "storeFull", unfollowed := true, recurses := true, named := ["math/bits.deBruijn64tab"], apart := false, laid := [("math/bits.deBruijn64tab", laid_math_bits_deBruijn64tab)], narrowed := true }
def StoreFullUptoSaid : Prop := storeFullUptoRow.holds Tryz.pinned (OpenSpec.upto storeFullSpec)

/-- 'sgraffitolaw13.StoreErrors', WHERE WHAT IT READS IS OF BULK AT MOST 1048576: true; the input reads as it did. -/
def storeErrorsUptoRow : OpenClaim := { program := "ytgdhaaokolfdoaagreatdoor", sum := "0ef01ee82ded2c761db0190d690af9a5d98cb3b55d251aaaa61b8713f0574cfa", func := "sgraffito/sgraffitolaw13.StoreErrors", spec := "storeErrors", unfollowed := true, recurses := true, named := ["math/bits.deBruijn64tab"], apart := false, laid := [("math/bits.deBruijn64tab", laid_math_bits_deBruijn64tab)], narrowed := true }
def StoreErrorsUptoSaid : Prop := storeErrorsUptoRow.holds Tryz.pinned (OpenSpec.upto storeErrorsSpec)

/-- 'sgraffitolaw13.StorePlans', WHERE WHAT IT READS IS OF BULK AT MOST 1048576: true; the input reads as it did. -/
def storePlansUptoRow : OpenClaim := { program := "ytgdhaaokolfdoaagreatdoor", sum := "0ef01ee82ded2c761db0190d690af9a5d98cb3b55d251aaaa61b8713f0574cfa", func := "sgraffito/sgraffitolaw13.StorePlans", spec := "storePlans", unfollowed := true, recurses := true, named := ["math/bits.deBruijn64tab"], apart := false, laid := [("math/bits.deBruijn64tab", laid_math_bits_deBruijn64tab)], narrowed := true }
def StorePlansUptoSaid : Prop := storePlansUptoRow.holds Tryz.pinned (OpenSpec.upto storePlansSpec)

/-- 'sgraffitolaw13.StoreParts', WHERE WHAT IT READS IS OF BULK AT MOST 1048576: true; the input reads as it did. -/
def storePartsUptoRow : OpenClaim := { program := "ytgdhaaokolfdoaagreatdoor", sum := "0ef01ee82ded2c761db0190d690af9a5d98cb3b55d251aaaa61b8713f0574cfa", func := "sgraffito/sgraffitolaw13.StoreParts", spec := "storeParts", unfollowed := true, recurses := true, named := ["math/bits.deBruijn64tab"], apart := false, laid := [("math/bits.deBruijn64tab", laid_math_bits_deBruijn64tab)], narrowed := true }
def StorePartsUptoSaid : Prop := storePartsUptoRow.holds Tryz.pinned (OpenSpec.upto storePartsSpec)

/-- 'sgraffitolaw13.StoreNil', WHERE WHAT IT READS IS OF BULK AT MOST 1048576: true; the input reads as it did. -/
def storeNilUptoRow : OpenClaim := { program := "ytgdhaaokolfdoaagreatdoor", sum := "0ef01ee82ded2c761db0190d690af9a5d98cb3b55d251aaaa61b8713f0574cfa", func := "sgraffito/sgraffitolaw13.StoreNil", spec := "storeNil", unfollowed := true, recurses := true, named := ["math/bits.deBruijn64tab"], apart := false, laid := [("math/bits.deBruijn64tab", laid_math_bits_deBruijn64tab)], narrowed := true }
def StoreNilUptoSaid : Prop := storeNilUptoRow.holds Tryz.pinned (OpenSpec.upto storeNilSpec)

/-- 'sgraffitolaw13.StoreWhole', WHERE WHAT IT READS IS OF BULK AT MOST 1048576: true; the input reads as it did. -/
def storeWholeUptoRow : OpenClaim := { program := "ytgdhaaokolfdoaagreatdoor", sum := "0ef01ee82ded2c761db0190d690af9a5d98cb3b55d251aaaa61b8713f0574cfa", func := "sgraffito/sgraffitolaw13.StoreWhole", spec := "storeWhole", unfollowed := true, recurses := true, named := ["math/bits.deBruijn64tab"], apart := false, laid := [("math/bits.deBruijn64tab", laid_math_bits_deBruijn64tab)], narrowed := true }
def StoreWholeUptoSaid : Prop := storeWholeUptoRow.holds Tryz.pinned (OpenSpec.upto storeWholeSpec)

/-- 'sgraffitolaw15.DirApart', WHERE WHAT IT READS IS OF BULK AT MOST 1048576: true; the input reads as it did. -/
def dirApartUptoRow : OpenClaim := { program := "ytgdhaaokolfdoaagreatdoor", sum := "0ef01ee82ded2c761db0190d690af9a5d98cb3b55d251aaaa61b8713f0574cfa", func := "sgraffito/sgraffitolaw15.DirApart", spec := "dirApart", unfollowed := true, recurses := true, named := ["math/bits.deBruijn64tab"], apart := false, laid := [("math/bits.deBruijn64tab", laid_math_bits_deBruijn64tab)], narrowed := true }
def DirApartUptoSaid : Prop := dirApartUptoRow.holds Tryz.pinned (OpenSpec.upto dirApartSpec)

/-- 'sgraffitolaw15.DirNil', WHERE WHAT IT READS IS OF BULK AT MOST 1048576: true; the input reads as it did. -/
def dirNilUptoRow : OpenClaim := { program := "ytgdhaaokolfdoaagreatdoor", sum := "0ef01ee82ded2c761db0190d690af9a5d98cb3b55d251aaaa61b8713f0574cfa", func := "sgraffito/sgraffitolaw15.DirNil", spec := "dirNil", unfollowed := true, recurses := true, named := ["math/bits.deBruijn64tab"], apart := false, laid := [("math/bits.deBruijn64tab", laid_math_bits_deBruijn64tab)], narrowed := true }
def DirNilUptoSaid : Prop := dirNilUptoRow.holds Tryz.pinned (OpenSpec.upto dirNilSpec)

/-- 'sgraffitolaw15.DirPages', WHERE WHAT IT READS IS OF BULK AT MOST 1048576: true; the input reads as it did. -/
def dirPagesUptoRow : OpenClaim := { program := "ytgdhaaokolfdoaagreatdoor", sum := "0ef01ee82ded2c761db0190d690af9a5d98cb3b55d251aaaa61b8713f0574cfa", func := "sgraffito/sgraffitolaw15.DirPages", spec := "dirPages", unfollowed := true, recurses := true, named := ["math/bits.deBruijn64tab"], apart := false, laid := [("math/bits.deBruijn64tab", laid_math_bits_deBruijn64tab)], narrowed := true }
def DirPagesUptoSaid : Prop := dirPagesUptoRow.holds Tryz.pinned (OpenSpec.upto dirPagesSpec)

/-- 'sgraffitolaw15.DirPlays', WHERE WHAT IT READS IS OF BULK AT MOST 1048576: true; the input reads as it did. -/
def dirPlaysUptoRow : OpenClaim := { program := "ytgdhaaokolfdoaagreatdoor", sum := "0ef01ee82ded2c761db0190d690af9a5d98cb3b55d251aaaa61b8713f0574cfa", func := "sgraffito/sgraffitolaw15.DirPlays", spec := "dirPlays", unfollowed := true, recurses := true, named := ["math/bits.deBruijn64tab"], apart := false, laid := [("math/bits.deBruijn64tab", laid_math_bits_deBruijn64tab)], narrowed := true }
def DirPlaysUptoSaid : Prop := dirPlaysUptoRow.holds Tryz.pinned (OpenSpec.upto dirPlaysSpec)

/-- 'sgraffitolaw17.IndexStale', WHERE WHAT IT READS IS OF BULK AT MOST 1048576: true; the input reads as it did. -/
def indexStaleUptoRow : OpenClaim := { program := "ytgdhaaokolfdoaagreatdoor", sum := "0ef01ee82ded2c761db0190d690af9a5d98cb3b55d251aaaa61b8713f0574cfa", func := "sgraffito/sgraffitolaw17.IndexStale", spec := "indexStale", inPlace := ["slices.overlaps[sgraffito/bucket.Entry]"], unfollowed := true, recurses := true, named := ["math/bits.deBruijn64tab"], apart := false, laid := [("math/bits.deBruijn64tab", laid_math_bits_deBruijn64tab)], narrowed := true }
def IndexStaleUptoSaid : Prop := indexStaleUptoRow.holds Tryz.pinned (OpenSpec.upto indexStaleSpec)

/-- 'sgraffitolaw17.IndexKeeps', WHERE WHAT IT READS IS OF BULK AT MOST 1048576: true; the input reads as it did. -/
def indexKeepsUptoRow : OpenClaim := { program := "ytgdhaaokolfdoaagreatdoor", sum := "0ef01ee82ded2c761db0190d690af9a5d98cb3b55d251aaaa61b8713f0574cfa", func := "sgraffito/sgraffitolaw17.IndexKeeps", spec := "indexKeeps", inPlace := ["slices.overlaps[sgraffito/bucket.Entry]"], unfollowed := true, recurses := true, named := ["math/bits.deBruijn64tab"], apart := false, laid := [("math/bits.deBruijn64tab", laid_math_bits_deBruijn64tab)], narrowed := true }
def IndexKeepsUptoSaid : Prop := indexKeepsUptoRow.holds Tryz.pinned (OpenSpec.upto indexKeepsSpec)

/-- 'sgraffitolaw17.IndexDeep', WHERE WHAT IT READS IS OF BULK AT MOST 1048576: true; the input reads as it did. -/
def indexDeepUptoRow : OpenClaim := { program := "ytgdhaaokolfdoaagreatdoor", sum := "0ef01ee82ded2c761db0190d690af9a5d98cb3b55d251aaaa61b8713f0574cfa", func := "sgraffito/sgraffitolaw17.IndexDeep", spec := "indexDeep", inPlace := ["slices.overlaps[sgraffito/bucket.Entry]"], unfollowed := true, recurses := true, named := ["math/bits.deBruijn64tab"], apart := false, laid := [("math/bits.deBruijn64tab", laid_math_bits_deBruijn64tab)], narrowed := true }
def IndexDeepUptoSaid : Prop := indexDeepUptoRow.holds Tryz.pinned (OpenSpec.upto indexDeepSpec)

/-- 'sgraffitolaw17.IndexShape', WHERE WHAT IT READS IS OF BULK AT MOST 1048576: true; the input reads as it did. -/
def indexShapeUptoRow : OpenClaim := { program := "ytgdhaaokolfdoaagreatdoor", sum := "0ef01ee82ded2c761db0190d690af9a5d98cb3b55d251aaaa61b8713f0574cfa", func := "sgraffito/sgraffitolaw17.IndexShape", spec := "indexShape", inPlace := ["slices.overlaps[sgraffito/bucket.Entry]"], unfollowed := true, recurses := true, named := ["math/bits.deBruijn64tab"], apart := false, laid := [("math/bits.deBruijn64tab", laid_math_bits_deBruijn64tab)], narrowed := true }
def IndexShapeUptoSaid : Prop := indexShapeUptoRow.holds Tryz.pinned (OpenSpec.upto indexShapeSpec)

/-- 'sgraffitolaw17.IndexPlays', WHERE WHAT IT READS IS OF BULK AT MOST 1048576: true; the input reads as it did. -/
def indexPlaysUptoRow : OpenClaim := { program := "ytgdhaaokolfdoaagreatdoor", sum := "0ef01ee82ded2c761db0190d690af9a5d98cb3b55d251aaaa61b8713f0574cfa", func := "sgraffito/sgraffitolaw17.IndexPlays", spec := "indexPlays", inPlace := ["slices.overlaps[sgraffito/bucket.Entry]"], unfollowed := true, recurses := true, named := ["math/bits.deBruijn64tab"], apart := false, laid := [("math/bits.deBruijn64tab", laid_math_bits_deBruijn64tab)], narrowed := true }
def IndexPlaysUptoSaid : Prop := indexPlaysUptoRow.holds Tryz.pinned (OpenSpec.upto indexPlaysSpec)

/-- 'sgraffitolaw17.IndexWhole', WHERE WHAT IT READS IS OF BULK AT MOST 1048576: true; the input reads as it did. -/
def indexWholeUptoRow : OpenClaim := { program := "ytgdhaaokolfdoaagreatdoor", sum := "0ef01ee82ded2c761db0190d690af9a5d98cb3b55d251aaaa61b8713f0574cfa", func := "sgraffito/sgraffitolaw17.IndexWhole", spec := "indexWhole", inPlace := ["slices.overlaps[sgraffito/bucket.Entry]"], unfollowed := true, recurses := true, named := ["math/bits.deBruijn64tab"], apart := false, laid := [("math/bits.deBruijn64tab", laid_math_bits_deBruijn64tab)], narrowed := true }
def IndexWholeUptoSaid : Prop := indexWholeUptoRow.holds Tryz.pinned (OpenSpec.upto indexWholeSpec)

end Rows
end Go.Proofs.YtgdhaaokolfdoaaGreatDoor
