/- IndexWhole: the row and its tied card hold for every input. Conditions: none beyond the row's. -/
import Derived.Test.YtgdhaaokolfdoaaGreatDoorNBQ
import Derived.Test.YtgdhaaokolfdoaaGreatDoorNBR
import Derived.Test.YtgdhaaokolfdoaaGreatDoorRF
set_option maxRecDepth 100000
set_option linter.all false
namespace Go.Proofs.YtgdhaaokolfdoaaGreatDoor
namespace indexWhole
open Go.ChangeShapes Go.WideShapes Go.ChangeAt Go.RowKit Go.Sg
theorem lifted (os:Os)(started:os.Started)(H:Type)(enc:TypeId × Value->H) :
  ReturnsInHanded {} Tryz.checked os 18 .any (fun w args=>(Rows.indexWholeSpec.pre enc Tryz.prog Tryz.f18 [] false w args/\laidMetH Tryz.prog laid w)/\sizedMet enc Tryz.prog Tryz.f18 (OpenSpec.ofChange Rows.indexWholeSpec) false w args)
   (Rows.indexWholeSpec.post enc Tryz.prog Tryz.f18 false true false false):=by
 refine returnsInHanded_of_change_and (C:=Tryz.checked) (X:=fun w _=>laidMetH Tryz.prog laid w) (fun _ _ _ hh h=>h.of_heap hh) own started kF Tryz.func18
  (ChangeSpec.witness_shaped (enc:=enc) (C:=Tryz.checked) (os:=os) (X:=fun w _=>laidMetH Tryz.prog laid w) false (World.laidAll Tryz.prog os laid) #[.agg #[.slice none 0 0,.int .i64 0,.slice none 0 0]] 8 (World.laidAll_os _ _ _) (World.shaped_of_ZipB kF kF) kF kF kF (laid_met os _)) ?_
 intro W base args ds gs before Lq hW _ _ hL _;have hval:∀ (j:Nat) t v,Tryz.f18.params[j]?=some t->args[j]?=some v->Value.okWide Tryz.prog W .any base t v:=Lq
 have Cj:=hW;obtain⟨p,q,hA0,hV,rfl,hfz,eA⟩:=hW;have hA:DataW.TrodAll enc Tryz.prog W 0 (fun _=>true) true Tryz.f18.params.toList args.toList ds p:=hA0;rw[Tryz.params18] at hA hval;obtain⟨v0,vs0,d0,ds0,p0,q0,hargs,rfl,rfl,h0,r0⟩:=trodAll_cons hA;obtain⟨rfl,rfl,rfl⟩:=trodAll_nil r0;obtain rfl:args=#[v0]:=by cases args;simp_all
 obtain⟨a,n,c,l,k,fa,fn,fc,fl,rfl,N8,hA1,hk,hf,hr⟩:=oy0 (hval 0 145 v0 rfl rfl) h0;refine (kZ0 N8 W (of0 hL) hA1 hk hf hr).mono fun e W' ⟨he,hg⟩=>?_
 subst he;exact⟨_,rfl,ws0 (tb:=4) gR kF rfl kF Tryz.underlying4 Cj (hg.below nI) rfl⟩
theorem yG0:(Rows.indexWholeRow.inPlace == Tryz.prog.inPlace 18)=true:=by kernel_rfl
theorem Dr0:(Rows.indexWholeRow.unfollowed == Tryz.prog.unfollowed 18)=true:=by kernel_rfl
theorem Ds0:(Rows.indexWholeRow.recurses == Tryz.prog.recurses 18)=true:=by kernel_rfl
theorem yH0:(Rows.indexWholeRow.named == Tryz.prog.varsNamed 18)=true:=by kernel_rfl
theorem facts:joinedFacts Tryz.prog 18 Tryz.f18 Rows.indexWholeSpec Rows.indexWholeRow=true:=by
 simp only[joinedFacts,uh];refine⟨?_,by kernel_rfl⟩;refine⟨?_,by kernel_rfl⟩;refine⟨?_,by kernel_rfl⟩;refine⟨?_,by kernel_rfl⟩;refine⟨?_,zT0⟩;refine⟨?_,tI0⟩;refine⟨?_,wY0⟩;refine⟨?_,wX0⟩;refine⟨?_,by kernel_rfl⟩;refine⟨?_,zW0⟩;refine⟨?_,by kernel_rfl⟩;refine⟨?_,by kernel_rfl⟩;refine⟨?_,by kernel_rfl⟩;refine⟨?_,by kernel_rfl⟩;refine⟨?_,by kernel_rfl⟩;refine⟨?_,by kernel_rfl⟩;refine⟨?_,by kernel_rfl⟩;refine⟨?_,by kernel_rfl⟩;refine⟨?_,by kernel_rfl⟩;refine⟨?_,yH0⟩;refine⟨?_,Ds0⟩;refine⟨?_,Dr0⟩;refine⟨?_,yG0⟩;refine⟨?_,wW0⟩;refine⟨?_,by kernel_rfl⟩;refine⟨?_,wU0⟩;refine⟨?_,by kernel_rfl⟩;refine⟨?_,by kernel_rfl⟩;refine⟨?_,by kernel_rfl⟩;refine⟨?_,zS0⟩;exact⟨by kernel_rfl,gR⟩
theorem xK0:Tryz.prog.funcNamed Rows.indexWholeRow.func=some 18:=by kernel_rfl
theorem Bs0:Tryz.f18.isInstance Tryz.prog Rows.indexWholeRow.origin Rows.indexWholeRow.targs:=of_decide_eq_true kF
theorem Bq0:Tryz.f18.isWrapper Tryz.prog Rows.indexWholeRow.wrapper Rows.indexWholeRow.mainSum:=by
 unfold Func.isWrapper;first|(rw[if_pos (by decide +kernel)];kernel_rfl)|(rw[if_neg (by decide +kernel)];exact⟨rfl,rfl⟩)
theorem over:Rows.indexWholeRow.holds Tryz.pinned (OpenSpec.ofChange Rows.indexWholeSpec):=
 OpenClaim.holds_of_wide 18 Tryz.f18 rfl rfl rfl rfl rfl rfl rfl ⟨rfl,rfl,rfl,rfl,rfl⟩ rfl rfl rfl rfl rfl xK0 Tryz.func18 facts Bs0 Bq0
  (fun os started H enc _=>lifted os started H enc)
theorem Dq0:Rows.indexWholeRow.wfByText (OpenSpec.ofChange Rows.indexWholeSpec)=true:=by kernel_rfl
theorem Bt0:false=Rows.indexWholeRow.goesBy Tryz.prog:=by kernel_rfl
theorem Br0:([145].all fun u=>!Tryz.prog.wantsStandIn u)=true:=by kernel_rfl
theorem card_holds:Claim7.holds Tryz.pinned (.plain (OpenSpec.ofChange Rows.indexWholeSpec)) Rows.indexWholeCard:=
 Claim7.holds_tied_plain_at .later [] [.data] true (true, "e398d9c22f2f7fd5244c9c4088e24dc147c9b492cf57d8d70d9d24d47e8ca071") false
  over (fun _ h=>by cases h) Dq0 (fun _ h=>by cases h) indexWhole_row_tie rfl ⟨rfl,rfl⟩ zU0 rfl
  (fun f fn hf U9=>by
   obtain rfl:f=18:=Option.some.inj (xK0.symm.trans hf) |>.symm
   obtain rfl:fn=Tryz.f18:=(Option.some.inj (Tryz.func18.symm.trans U9)).symm;exact⟨wV0,fun j t ht=>by
    rw[Tryz.params18] at ht;have hm:t ∈ [145]:=(by simpa using Array.mem_of_getElem? ht);have Y2:=Br0;exact (show Tryz.prog.wantsStandIn t=false by simpa using Qr.1 Y2 t hm)⟩)
  Bt0
end indexWhole
theorem indexWhole_card:Rows.IndexWholeCardSaid:=indexWhole.card_holds
#print axioms indexWhole_card
