/- IndexPlays: the row and its tied card hold for every input. Conditions: none beyond the row's. -/
import Derived.Test.YtgdhaaokolfdoaaGreatDoorNBR
import Derived.Test.YtgdhaaokolfdoaaGreatDoorRF
set_option maxRecDepth 100000
set_option linter.all false
namespace Go.Proofs.YtgdhaaokolfdoaaGreatDoor
namespace indexPlays
open Go.ChangeShapes Go.WideShapes Go.ChangeAt Go.RowKit Go.Sg
theorem lifted (os:Os)(started:os.Started)(H:Type)(enc:TypeId × Value->H) :
  ReturnsInHanded {} Tryz.checked os 17 .any (fun w args=>(Rows.indexPlaysSpec.pre enc Tryz.prog Tryz.f17 [] false w args/\laidMetH Tryz.prog laid w)/\sizedMet enc Tryz.prog Tryz.f17 (OpenSpec.ofChange Rows.indexPlaysSpec) false w args)
   (Rows.indexPlaysSpec.post enc Tryz.prog Tryz.f17 false true false false):=by
 refine returnsInHanded_of_change_and (C:=Tryz.checked) (X:=fun w _=>laidMetH Tryz.prog laid w) (fun _ _ _ hh h=>h.of_heap hh) own started kF Tryz.func17
  (ChangeSpec.witness_shaped (enc:=enc) (C:=Tryz.checked) (os:=os) (X:=fun w _=>laidMetH Tryz.prog laid w) false (World.laidAll Tryz.prog os laid) #[.slice none 0 0] 8 (World.laidAll_os _ _ _) (World.shaped_of_ZipB kF kF) kF kF kF (laid_met os _)) ?_
 intro W base args ds gs before hval0 hW _ _ hL _;have hval:∀ (j:Nat) t v,Tryz.f17.params[j]?=some t->args[j]?=some v->Value.okWide Tryz.prog W .any base t v:=hval0
 have hW':=hW;obtain⟨p,q,hA0,hV,rfl,hfz,hnd⟩:=hW;have hA:DataW.TrodAll enc Tryz.prog W 0 (fun _=>true) true Tryz.f17.params.toList args.toList ds p:=hA0;rw[Tryz.params17] at hA hval;obtain⟨v0,vs0,d0,ds0,p0,q0,hargs,rfl,rfl,h0,r0⟩:=trodAll_cons hA;obtain⟨rfl,rfl,rfl⟩:=trodAll_nil r0;obtain rfl:args=#[v0]:=by cases args;simp_all
 obtain⟨a,n,c,l,rfl,hll,hA⟩:=rN0 (hval 0 104 v0 rfl rfl) h0;refine (jE0 hll W (nn0 hL) hA).mono fun e W' ⟨he,hg⟩=>?_
 subst he;exact⟨_,rfl,ur0 (tb:=4) Tryz.laidOut kF rfl kF Tryz.underlying4 hW' (hg.below nI) rfl⟩
theorem wX0:(Rows.indexPlaysRow.inPlace == Tryz.prog.inPlace 17)=true:=by kernel_rfl
theorem Ac0:(Rows.indexPlaysRow.unfollowed == Tryz.prog.unfollowed 17)=true:=by kernel_rfl
theorem Ad0:(Rows.indexPlaysRow.recurses == Tryz.prog.recurses 17)=true:=by kernel_rfl
theorem wY0:(Rows.indexPlaysRow.named == Tryz.prog.varsNamed 17)=true:=by kernel_rfl
theorem facts:joinedFacts Tryz.prog 17 Tryz.f17 Rows.indexPlaysSpec Rows.indexPlaysRow=true:=by
 simp only[joinedFacts,mp9];refine⟨?_,by kernel_rfl⟩;refine⟨?_,by kernel_rfl⟩;refine⟨?_,by kernel_rfl⟩;refine⟨?_,by kernel_rfl⟩;refine⟨?_,xo0⟩;refine⟨?_,rE0⟩;refine⟨?_,ub0⟩;refine⟨?_,ua0⟩;refine⟨?_,by kernel_rfl⟩;refine⟨?_,xq0⟩;refine⟨?_,by kernel_rfl⟩;refine⟨?_,by kernel_rfl⟩;refine⟨?_,by kernel_rfl⟩;refine⟨?_,by kernel_rfl⟩;refine⟨?_,by kernel_rfl⟩;refine⟨?_,by kernel_rfl⟩;refine⟨?_,by kernel_rfl⟩;refine⟨?_,by kernel_rfl⟩;refine⟨?_,by kernel_rfl⟩;refine⟨?_,wY0⟩;refine⟨?_,Ad0⟩;refine⟨?_,Ac0⟩;refine⟨?_,wX0⟩;refine⟨?_,uZ0⟩;refine⟨?_,by kernel_rfl⟩;refine⟨?_,uX0⟩;refine⟨?_,by kernel_rfl⟩;refine⟨?_,by kernel_rfl⟩;refine⟨?_,by kernel_rfl⟩;refine⟨?_,xn0⟩;exact⟨by kernel_rfl,Tryz.laidOut⟩
theorem vT0:Tryz.prog.funcNamed Rows.indexPlaysRow.func=some 17:=by kernel_rfl
theorem yS0:Tryz.f17.isInstance Tryz.prog Rows.indexPlaysRow.origin Rows.indexPlaysRow.targs:=of_decide_eq_true kF
theorem yQ0:Tryz.f17.isWrapper Tryz.prog Rows.indexPlaysRow.wrapper Rows.indexPlaysRow.mainSum:=by
 unfold Func.isWrapper;first|(rw[if_pos (by decide +kernel)];kernel_rfl)|(rw[if_neg (by decide +kernel)];exact⟨rfl,rfl⟩)
theorem over:Rows.indexPlaysRow.holds Tryz.pinned (OpenSpec.ofChange Rows.indexPlaysSpec):=
 OpenClaim.holds_of_wide 17 Tryz.f17 rfl rfl rfl rfl rfl rfl rfl ⟨rfl,rfl,rfl,rfl,rfl⟩ rfl rfl rfl rfl rfl vT0 Tryz.func17 facts yS0 yQ0
  (fun os started H enc _=>lifted os started H enc)
theorem Ab0:Rows.indexPlaysRow.wfByText (OpenSpec.ofChange Rows.indexPlaysSpec)=true:=by kernel_rfl
theorem yT0:false=Rows.indexPlaysRow.goesBy Tryz.prog:=by kernel_rfl
theorem yR0:([104].all fun u=>!Tryz.prog.wantsStandIn u)=true:=by kernel_rfl
theorem card_holds:Claim7.holds Tryz.pinned (.plain (OpenSpec.ofChange Rows.indexPlaysSpec)) Rows.indexPlaysCard:=
 Claim7.holds_tied_plain_at .later [] [.data] true (true, "e398d9c22f2f7fd5244c9c4088e24dc147c9b492cf57d8d70d9d24d47e8ca071") false
  over (fun _ h=>by cases h) Ab0 (fun _ h=>by cases h) indexPlays_row_tie rfl ⟨rfl,rfl⟩ xp0 rfl
  (fun f fn hf hfn=>by
   obtain rfl:f=17:=Option.some.inj (vT0.symm.trans hf) |>.symm
   obtain rfl:fn=Tryz.f17:=(Option.some.inj (Tryz.func17.symm.trans hfn)).symm;exact⟨uY0,fun j t ht=>by
    rw[Tryz.params17] at ht;have hm:t ∈ [104]:=(by simpa using Array.mem_of_getElem? ht);have hall:=yR0;exact (show Tryz.prog.wantsStandIn t=false by simpa using ns9.1 hall t hm)⟩)
  yT0
end indexPlays
theorem indexPlays_card:Rows.IndexPlaysCardSaid:=indexPlays.card_holds
#print axioms indexPlays_card
end Go.Proofs.YtgdhaaokolfdoaaGreatDoor
