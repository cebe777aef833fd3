/- What the rows of this seat ask beside their walks: the listed table's cells; a world in which it lies. -/
import Derived.Test.YtgdhaaokolfdoaaGreatDoorNAC
import Derived.Test.YtgdhaaokolfdoaaGreatDoorTie
import Derived.Test.YtgdhaaokolfdoaaGreatDoorCards
import Derived.LaidMore
import Derived.Lay
set_option linter.all false
namespace Go.Proofs.YtgdhaaokolfdoaaGreatDoor
open Go.ChangeShapes Go.WideShapes Go.ChangeAt Go.RowKit Go.Sg Go.Shelf
theorem own:ownKnob Tryz.prog.godebug=none:=by kernel_rfl
theorem gR:laidOutB Tryz.prog=true:=by kernel_rfl
abbrev laid : List (String × DataW Unit) := [("math/bits.deBruijn64tab", Rows.laid_math_bits_deBruijn64tab)]
theorem tl0:(Rows.laid_math_bits_deBruijn64tab:DataW Unit) = .agg (Lib.deBruijn64tab.map fun x=>.lit (.int .u8 (x:Nat))):=by rfl
theorem zB0:Lib.deBruijn64tab.length=64:=by rfl
theorem of0 {W:World}(h:laidMetH Tryz.prog laid W):Tab W:=by
 rw [MakeChecks.laidMetH_plain _ _ _ kF] at h;obtain ⟨ps, ⟨g, t, cs, fuel, p, q, hg, ht, hv, hd, _, _⟩, _, _⟩ := h;obtain rfl := Option.some.inj ((show Tryz.prog.globalNamed "math/bits.deBruijn64tab" = some 0 by kernel_rfl).symm.trans hg);obtain rfl := Option.some.inj ((show (Tryz.prog.globals[0]?).map (·.type) = some 375 by kernel_rfl).symm.trans ht);have c5 : Tryz.prog.cellsOf 5 = 1 := by kernel_rfl
 have YA:Tryz.prog.underlying 375=some (.array 64 5):=by kernel_rfl
 obtain⟨xs,m,_,ex,hlen,hl,Pt⟩:=DataW.trod_array YA hd;rw[tl0] at ex;have e3:=(DataW.agg.inj (Prod.mk.inj ex).1);intro j hj;have hj':j<64:=by rw[zB0] at hj;exact hj
 have k:=Pt j hj';rw[c5,Nat.mul_one] at k;have hx:xs[j]?.map (·.1)=some (.lit (.int .u8 (Lib.deBruijn64tab.getD j 0))):=by
  rw[<- gP,<- e3,gP,List.getD_eq_getElem?_getD,gE hj];rfl
 cases hxj:xs[j]? with
 | none=>rw[hxj] at hx;cases hx
 | some y =>
  rw[hxj] at hx k;obtain⟨z,hz,hy,_⟩:=DataW.trod_int Tryz.underlying5 k;subst hy;have Y9:z=((Lib.deBruijn64tab.getD j 0:Nat):Int):=by
   have:=Option.some.inj hx;simpa using this
  rw [World.var?_cell (show Tryz.prog.globalNamed "math/bits.deBruijn64tab" = some 0 by kernel_rfl) hv j, <- Y9];have h0 : (cs.toList.drop j)[0]? = some (.int .u8 z) := by
   have:((cs.toList.drop j).take 1)[0]?=some (.int .u8 z):=by rw[hz];rfl
   rw[gT] at this;simpa using this
  rw[jJ] at h0;simpa using h0
theorem laid_met (os:Os)(args:Array Value):laidMetH Tryz.prog laid ((World.laidAll Tryz.prog os laid).forCall (fun _ _=>0) ⟨#[],args,[]⟩).memory:=by
 rw[MakeChecks.laidMetH_plain _ _ _ kF];exact laidMet_laidAll _ kF kF
