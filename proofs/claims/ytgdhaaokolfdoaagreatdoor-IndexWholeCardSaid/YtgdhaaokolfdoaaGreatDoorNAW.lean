/- A pack of texts. Conditions: those that each names. -/
import Derived.Test.YtgdhaaokolfdoaaGreatDoorNAV
set_option maxHeartbeats 16000000
set_option maxRecDepth 100000
set_option linter.all false
namespace Go.Proofs.YtgdhaaokolfdoaaGreatDoor
open Tryz
section
open Go.RowKit Go.Sg Go.Sg.Bits Go.Sg.r4 CP SF
end
section
open Go.RowKit Go.Sg CP SF
def fC:R8:=⟨120,96,3,2,4,3,8,0⟩
def jC0 (w:w9):cP 77 #[] w fun e w'=>e = rT fC.val/\Fq w w':=by
 go_enter func77,ntmps77;go_wp2
 refine bodyPost_ret (v:=.agg #[iI 120,iI 96,iI 3,iI 2,iI 4,iI 3,iI 8,iU 0]) sR rfl ⟨rfl,fR.alloc _⟩
def Ey:eS ⟨(120:Nat),(96:Nat),3,2,4,3,8,0⟩=true:=by decide +kernel
def NV (x:Bt)(w:w9):cP 65 #[E8 x] w (bt (E8 x) w):=by
 obtain⟨w1,I0⟩:=eX (((w.alloc (.cells #[iU x.hash,iI x.rg,iI x.at_,iI x.sz] 110)).alloc (.cells #[iU 0,iI 0,iI 0,iI 0] 118)))
 obtain⟨b0,b1,F1⟩:=n9 I0;obtain⟨c0,c1,c2,c3,cz,cl⟩:=D8 b0;obtain⟨d0,d1,d2,d3,dz,dl⟩:=D8 b1;have HW:=hid I0;have HF:=hid F1;have hs:w1.heap.size=w.heap.size+2:=by rw[<- I0];simp
 have HS:=hid hs;clear I0 b0 b1 F1 hs;go_enter func65,ntmps65;go_upto_region 1 with fail
 rw[HW];go_wp2_with fail
 refine bodyPost_ret (v:=E8 x) sR rfl ⟨rfl,?_⟩;exact (((HF.U2 oM _).U2 oM _).U2 oM _).U2 oM _
def xg0 {w:w9}{bx s bd sl most:Nat}{sp:Int}{x:P1}(h:dG w bx s bd sl most sp)(hD:N2 w bd s x):cP 76 #[O7 bx] w (YF x.rp x.rs w):=by
 obtain⟨w1,I0⟩:=eX (w.alloc (.cells #[iI 0,iI 0] 35))
 have b1:=fB I0
 have F1:=fA I0
 have HB:=hid fun W (F:Fq w1 W)=>cells2 (F.heap b1 id);obtain⟨c0,c1,c2,c3,c4,cz,cl⟩:=cells5 (F1.heap h id);have HR:=hid (zL0 (F1.heap hD id:N2 w1 bd s x));have HF:=hid F1;have HW:=hid I0;clear h hD I0 b1 F1;go_enter func76,ntmps76;go_upto_region 1 with fail
 rw[HW];go_wp2_with fail
 refine HR.mono ?_;rintro e w2 ⟨rfl,F2⟩;obtain⟨d0,d1,dz,dl⟩:=HB.o _ F2;have Y0:=hid F2;clear F2 c0 c1 c2 c3 c4 cz cl;go_wp2_with fail
 refine bodyPost_ret (v:=cV x.rp x.rs) sR rfl ⟨rfl,?_⟩;exact ((HF.trans Y0 nI).U2 oM _).U2 oM _
end
section
open Go.RowKit Go.Sg Go.Sg.Bits Go.Sg.r4 CP SF
def YK (p:R8):Int:=(S6 p).slots
def Et0 (s:Nat)(p:R8)(w:w9)(e:Ending)(w':w9):Prop:=∃ bx,e = rT (O7 bx)/\w'.heap[bx]?=some (.cells #[pO s,pO none,iI (YK p),iI p.depth,iI 0] 227)/\w.heap.size<=bx/\Fq w w'
def yk0 {w:w9}{B:P0}{y:Cs}{P:J2}{a:Bool}{N:Nat}(h:C1 w B y P a N)(O3:eS y.plan=true):cP 147 #[B.ptr] w (Et0 B.s y.plan w):=by
 obtain⟨⟨h6,-,TS⟩,h8,-⟩:=WZ O3;have ei:=hid fun W (F:Fq w W)=>Yx (h.J0 F);generalize y.plan=p at *
 have jP:=hid fun W=>Yq p W;rw[O3] at jP;have hz:YK p=(S6 p).slots:=rfl;obtain⟨pa,pb,pc,pd,pf,dp,ph,ps⟩:=p;generalize S6 ⟨pa,pb,pc,pd,pf,dp,ph,ps⟩=L at *
 obtain⟨l1,l2,l3,per,l5,l6,l7⟩:=L;have HZ:=hid hz;clear h O3 h6 TS h8 hz;go_enter func147,ntmps147;go_wp2_with (go_at_call 33;refine (ei _ fR).mono ?_)
 rintro e w1 ⟨rfl,F1⟩;have E1:=hid F1;clear F1;go_wp2_with (go_at_call 91;refine (jP _).mono ?_)
 rintro e w2 ⟨rfl,F2⟩;have Y0:=hid (E1.trans F2 nI);clear F2;simp only[if_true];go_upto_region 2 with fail
 obtain⟨W3,S5⟩:=eX (w2.alloc (.cells #[iI 2,iI l1,iI l2,iI l3,iI per,iI l5,iI l6,iI l7] 169))
 rw[S5];have F3:=fA S5
 have b3:=fB S5
 have N5:=hid (Y0.trans F3 nI);have c4:=G0 b3 5;simp at c4;have l3:=M0 b3;have lD:∀ W,(Instr.field 31 (.agg #[iI pa,iI pb,iI pc,iI pd,iI pf,iI dp,iI ph,iU ps]) 5).run prog W = .ok (iI dp) W:=fun W=>by kernel_rfl
 clear F3 b3 S5;go_region_held3 (fun W=>W.cell? (aA w2 5)=some (iI l5)) (go_keep)
  (first
   | (go_at_call 33;refine (ei _ (by first|exact N5.o|exact N5.drew)).mono ?_;rintro e W4 ⟨he,F4⟩;obtain rfl:e = rT (.agg #[iI pa,iI pb,iI pc,iI pd,iI pf,iI dp,iI ph,iU ps]):=he;have c4:=(F4.cell (p:=⟨w2,5,none⟩) (by first|exact l3|(simp;omega)) id).trans c4;have p8:=hid (show Fq W3 W4 by first|exact F4|exact (fR.drew).trans F4 nI);clear F4))
 all_goals (go_wp2_with fail)
 all_goals go_ret
 all_goals (
  refine⟨_,rfl,?_,nT N5.size p8.size,(N5.trans p8 nI).alloc _⟩;rw[HZ];exact han _ _)
end
section
open Go.RowKit Go.Sg CP SF
def uD0 (x:Bt)(b:Bool)(w:w9)(hR:∀ W g,W.heap[g]?=some (.cells #[iU x.hash,iI x.rg,iI x.at_,iI x.sz] 118)->w.heap.size<=g->Fq w W->cP 190 #[E9 0 0 (sL (aP g 0) 1 1),iI 1] W (bt (bO b) W)):cP 129 #[E8 x] w (bt (bO b) w):=by
 obtain⟨w1,I0⟩:=eX (w.alloc (.cells #[iU x.hash,iI x.rg,iI x.at_,iI x.sz] 118))
 have b1:=fB I0
 have F1:=fA I0
 obtain⟨c0,c1,c2,c3,cz,cl⟩:=D8 b1;have E1:=hid F1;have HW:=hid I0;have HR:=hid hR;clear hR I0 b1 F1;go_enter func129,ntmps129;go_upto_region 1 with fail
 rw[HW];go_wp2_with fail
 refine (HR _ w1.heap.size (han _ _) E1.size (E1.alloc _)).mono ?_;rintro e w2 ⟨rfl,F2⟩;have Y0:=hid ((E1.alloc _).trans F2 nI);clear F2 c0 c1 c2 c3 cz cl;go_wp2_with fail
 refine bodyPost_ret (v:=bO b) sR rfl ⟨rfl,?_⟩;exact Y0
def ro0 (x:Bt)(b:Bool)(w:w9)(hR:∀ W g,W.heap[g]?=some (.cells #[iU x.hash,iI x.rg,iI x.at_,iI x.sz] 110)->w.heap.size<=g->Fq w W->cP 128 #[E9 0 0 (sL (aP g 0) 1 1),iI 1] W (bt (bO b) W)):cP 63 #[E8 x] w (bt (bO b) w):=by
 obtain⟨w1,I0⟩:=eX (w.alloc (.cells #[iU x.hash,iI x.rg,iI x.at_,iI x.sz] 110))
 have b1:=fB I0
 have F1:=fA I0
 obtain⟨c0,c1,c2,c3,cz,cl⟩:=D8 b1;have E1:=hid F1;have HW:=hid I0;have HR:=hid hR;clear hR I0 b1 F1;go_enter func63,ntmps63;go_upto_region 1 with fail
 rw[HW];go_wp2_with fail
 refine (HR _ w1.heap.size (han _ _) E1.size (E1.alloc _)).mono ?_;rintro e w2 ⟨rfl,F2⟩;have Y0:=hid ((E1.alloc _).trans F2 nI);clear F2 c0 c1 c2 c3 cz cl;go_wp2_with fail
 refine bodyPost_ret (v:=bO b) sR rfl ⟨rfl,?_⟩;exact Y0
end
end Go.Proofs.YtgdhaaokolfdoaaGreatDoor
namespace Go.Sg
open Go.RowKit
variable {F:Fence}{n:Nat}{P:Program}
def XS {α:Type}(F:Fence)(n:Nat)(P:Program)(g:Nat)(lb:Array Value)(encs:α->Array Value)(T:α->World->Prop)(Kp:World->World->Prop)(S Sp:List α->Prop)(N:Nat)(w:w9):Prop:=
 ∀ (l:Nat) (J Jx:List α->World->Prop) (W:w9),Below w.heap.size w W->OwnFrom W.heap.size J->OwnFrom W.heap.size Jx ->
  (∀ pre x W1,J pre W1->T x W1->pre.length<N->YieldAt F (n-1) P l (encs x) W1 fun e W'=>(e = rT (bO true)/\J (pre++[x]) W'/\Kp W1 W')\/(e = rT (bO false)/\Jx (pre++[x]) W')) ->
  J [] W->CallsIn F n P g (#[.func (.yield l) #[] #[]]++lb) W fun e W'=>(∃ v,e = rT v)/\((∃ xs,S xs/\J xs W')\/(∃ pre,Sp pre/\Jx pre W'))
def dE0 {α:Type}{g:Operand}{ps:Array Tmp}{assign body:Code}{Q:Exit->Act->World->Prop}{a:Act}{w:w9}
  (hro:F.round=none) (h1:1<=n) {gf:Nat} {lb:Array Value} (hg:a.eval g = .func (.func gf) #[] lb) (Cb:F.fn gf) (eg:∀ args w,(callFunc gf args).run P w = .ok (.enter gf args) w)
  {encs:α->Array Value} {Kp:World->World->Prop} {S Sp:List α->Prop} {N:Nat} {w0:w9} {T:α->World->Prop} (I:List α->World->Prop) (gB:XS F (n-1) P gf lb encs T Kp S Sp N w0)
  (mB:∀ {A B C:w9},Kp A B->Kp B C->Kp A C) (sC:∀ (W:w9) (l:Nat) (o o':Obj),w.heap.size<=l->W.heap[l]?=some o->o.isCells=false->o.isWalk=false->Kp W (W.putObj l o'))
  (d7:Below w0.heap.size w0 w) (aD:∀ x,(encs x).size=ps.size)
  (Ix:Code->List α->World->Prop) (hI:OwnFrom w.heap.size I) (sA:∀ c,OwnFrom w.heap.size (Ix c)) (h0:I [] w) (Ax:α->Act->World->Prop) (hAx:∀ x a',OwnFrom w.heap.size fun (_:Unit) W=>Ax x a' W)
  (z8:∀ (l:Nat) (pre:List α) (x:α) (W:w9) (K:Act->World->Prop),I pre W->T x W->(∀ a' W',KeepsFrom w.heap.size W W'->Kp W W'->I pre W'->Ax x a' W'->K a' W') ->
   assign.wpIn (F.inRound l) (n-1-1) P (Exit.then K fun _ _ _=>False) { tmps:=(ps.zip (encs x)).foldl (fun t (p,v)=>t.setIfInBounds p v) a.tmps,defers:=[] } W)
  (au:∀ (l:Nat) (pre:List α) (x:α) (a':Act) (W:w9),w.heap.size<=l->(∃ r,W.heap[l]?=some (.loop r))->I pre W->Ax x a' W->pre.length<N->body.wpIn (F.inRound l) (n-1-1) P (Xi w.heap.size Kp I Ix (pre++[x]) W) a' W)
  (hdone:∀ (D:Nat) (xs:List α) (W:w9),w.heap.size<=D->S xs->I xs W->W.heap[D]?=some (.deferred (some []))->Q .normal { a with defers:={ target:=.collected D,args:=#[] } :: a.defers } W)
  (kH:∀ (D:Nat) (c:Code) (pre:List α) (W:w9),w.heap.size<=D->Sp pre->Ix c pre W->W.heap[D]?=some (.deferred (some []))->c.wpIn F n P Q { a with defers:={ target:=.collected D,args:=#[] } :: a.defers } W) :
  (Code.rangeFunc g ps assign body).wpIn F n P Q a w:=by
 refine wpIn_rangeFunc fun fn U9=>?_
 rw[hro];-- the loop's record,in whatever state
 let nh:LoopState->Option Code->Loop:=fun st pe=>{ state:=st,pending:=pe,fn,tmps:=a.tmps,params:=ps,assign,body,defers:=w.heap.size }
 obtain⟨rd,B8⟩:=xe nh
 have oE:∀ st pe,(rd st pe).state=st:=fun st pe=>by rw[B8]
 have vM:∀ st pe,(rd st pe).pending=pe:=fun st pe=>by rw[B8]
 obtain⟨L,hL⟩:=xe (w.heap.size+1)
 obtain⟨W1,M2⟩:=eX ((w.alloc (.deferred (some []))).alloc (.loop (rd .ready none)))
 obtain⟨BW,gh,F1⟩:=n9 M2;rw[<- hL] at gh;have I9:I [] W1:=by rw[<- M2];exact hI.alloc _ (hI.alloc _ h0)
 have E5:Below w0.heap.size w0 W1:=by
  refine d7.trans ((Fr.below (S:=fun _=>False) F1 nI).mono d7.size)
 have E3:W1.heap.size=w.heap.size+2:=by rw[<- M2];simp
 refine⟨L,[{ target:=.collected w.heap.size,args:=#[] }],W1,{ target:=.fn (.func gf) lb,args:=#[.func (.yield L) #[] #[]] },W1,gf,#[.func (.yield L) #[] #[]]++lb,W1,?_,?_,?_,?_,fun _=>h1,?_⟩
 .rw[<- M2,hL,B8];exact run_enterLoop_outer _ _ _ _ _
 .simp only[resolve,hg];simp[go_sem]
 .intro f' pJ;simp[Target.leads] at pJ;subst pJ;exact Cb
 .simp[invoke,go_sem,eg]
 have aE:∀ {A:w9} {row:Option Nat},(∀ r,row=some r->W1.heap.size<=r/\∃ o:Obj,A.heap[r]?=some o/\o.isCells=false)->(∀ r,row=some r->w.heap.size<=r/\∃ o:Obj,A.heap[r]?=some o/\o.isCells=false):=
  fun hr r e=>by obtain⟨hB,h⟩:=hr r e;exact⟨oM,h⟩
 have hold:∀ {A B:w9} {row:Option Nat} {b:Nat} {o:Obj},A.grownBy B row->(∀ r,row=some r->W1.heap.size<=r/\∃ o:Obj,A.heap[r]?=some o/\o.isCells=false)->b<W1->A.heap[b]?=some o->B.heap[b]?=some o:=
  fun I1 hr hb ho=>(I1.block _ (M0 ho) fun e=>by have:=(hr _ e.symm).1;omega).trans ho
 have hY:∀ pre x W,(I pre W/\W.heap[L]?=some (.loop (rd .ready none))/\W.heap[w.heap.size]?=some (.deferred (some [])))->T x W->pre.length<N ->
   YieldAt F (n-1-1) P L (encs x) W fun e W'=>(e = rT (bO true)/\(I (pre++[x]) W'/\W'.heap[L]?=some (.loop (rd .ready none))/\W'.heap[w.heap.size]?=some (.deferred (some [])))/\Kp W W') \/
    (e = rT (bO false)/\∃ c,Ix c (pre++[x]) W'/\W'.heap[L]?=some (.loop (rd .done (some c)))/\W'.heap[w.heap.size]?=some (.deferred (some []))):=by
  rintro pre x W ⟨hi,hl,hk⟩ hT hlen;have hy:=run_yield (P:=P) (args:=encs x) hl (by rw[B8];exact aD x);rw[B8] at hy;refine⟨fn,_,assign,body,hy,roundIn_of_wpIn U9 (z8 _ pre x W _ hi hT fun a' Wa tA M4 CU Cp=>?_)⟩;have M8:=tA.same _ _ oM hl rfl;have mR:=tA.same _ _ (nR _) hk rfl;have hlt:L<Wa:=M0 M8;refine⟨_,run_beginRound M8 (oE _ _),?_⟩;obtain⟨busy,K9⟩:∃ busy:Loop,{ rd .ready none with state:=.busy }=busy:=⟨_,rfl⟩
  rw[K9];have A8:(Wa.putObj L (.loop busy)).heap[L]?=some (.loop busy):=World.putObj_heap_same hlt;have iY:(Wa.putObj L (.loop busy)).heap[w.heap.size]?=some (.deferred (some [])):=(World.putObj_heap_other oM).trans mR;refine wpIn_mono (au _ pre x a' _ oM ⟨_,A8⟩ (hI.putObj _ CU oM M8 rfl) ((hAx x a').putObj (s:=()) _ Cp oM M8 rfl) hlen) ?_;have fin:∀ (jump:Option Code) (W3:w9),KeepsFrom w.heap.size (Wa.putObj L (.loop busy)) W3 ->
    (Instr.endRound L jump).run P W3 = .ok (bO jump.isNone) (W3.putObj L (.loop (rd (if jump.isNone then .ready else .done) jump)))/\W3.heap[L]?=some (.loop busy) /\
    (W3.putObj L (.loop (rd (if jump.isNone then .ready else .done) jump))).heap[L]?=some (.loop (rd (if jump.isNone then .ready else .done) jump)) /\
    (W3.putObj L (.loop (rd (if jump.isNone then .ready else .done) jump))).heap[w.heap.size]?=some (.deferred (some [])):=fun jump W3 Q2=>by
   have Y8:=Q2.same _ _ oM A8 rfl;refine⟨?_,Y8,World.putObj_heap_same (M0 Y8),(World.putObj_heap_other oM).trans (Q2.same _ _ (nR _) iY rfl)⟩;have:=run_endRound (P:=P) jump Y8;rw[<- K9,B8] at this;rw[B8];exact this
  have A9:Kp Wa (Wa.putObj L (.loop busy)):=sC _ _ _ _ oM M8 rfl rfl;rintro e a3 W3 hp;have out:∀ c,KeepsFrom w.heap.size (Wa.putObj L (.loop busy)) W3/\Ix c (pre++[x]) W3->∃ v W4,(Instr.endRound L (some c)).run P W3 = .ok v W4/\((rT v = rT (bO true)/\(I (pre++[x]) W4/\W4.heap[L]?=some (.loop (rd .ready none))/\W4.heap[w.heap.size]?=some (.deferred (some [])))/\Kp W W4) \/
    (rT v = rT (bO false)/\∃ c,Ix c (pre++[x]) W4/\W4.heap[L]?=some (.loop (rd .done (some c)))/\W4.heap[w.heap.size]?=some (.deferred (some [])))):=by
   rintro c ⟨Q2,pK⟩;obtain⟨hr,Y8,ja,pL⟩:=fin (some c) W3 Q2;exact⟨_,_,hr,.inr ⟨rfl,c,(sA c).putObj _ pK oM Y8 rfl,ja,pL⟩⟩
  cases e with
  | normal =>
   obtain⟨Q2,mS,pK⟩:=hp;obtain⟨hr,Y8,ja,pL⟩:=fin none W3 Q2;exact⟨_,_,hr,.inl ⟨rfl,⟨hI.putObj _ pK oM Y8 rfl,ja,pL⟩,mB M4 (mB (mB A9 mS) (sC _ _ _ _ oM Y8 rfl rfl))⟩⟩
  | ret=>exact out _ hp
  | exit id=>exact out _ hp
  | goto t=>exact out _ hp
  | panic ch=>exact hp.elim
  | outgrown=>exact hp.elim
 have eZ:=gB L (fun pre W=>I pre W/\W.heap[L]?=some (.loop (rd .ready none))/\W.heap[w.heap.size]?=some (.deferred (some [])))
  (fun pre W=>∃ c,Ix c pre W/\W.heap[L]?=some (.loop (rd .done (some c)))/\W.heap[w.heap.size]?=some (.deferred (some []))) W1 E5
  (fun s A B row hs I1 hr=>⟨hI s A B row hs.1 I1 (aE hr),hold I1 hr oM hs.2.1,hold I1 hr oM hs.2.2⟩)
  (fun s A B row hs I1 hr=>by
   obtain⟨c,hc,hl,hk⟩:=hs;exact⟨c,sA c s A B row hc I1 (aE hr),hold I1 hr oM hl,hold I1 hr oM hk⟩)
  hY ⟨I9,gh,BW⟩
 refine eZ.mono ?_;rintro e W2 ⟨⟨v,rfl⟩,(⟨xs,hS,hi,hl,hk⟩|⟨pre,mF,c,hi,hl,hk⟩)⟩
 .have hr:=run_endLoop (P:=P) hl (by rw[oE];simp);rw[vM] at hr;exact⟨none,_,hr,hdone _ xs _ (nR _) hS (hI.putObj _ hi oM hl rfl) ((World.putObj_heap_other oM).trans hk)⟩
 .have hr:=run_endLoop (P:=P) hl (by rw[oE];simp);rw[vM] at hr;exact⟨some c,_,hr,kH _ c pre _ (nR _) mF ((sA c).putObj _ hi oM hl rfl) ((World.putObj_heap_other oM).trans hk)⟩
end Go.Sg
namespace Go.Proofs.YtgdhaaokolfdoaaGreatDoor
open Tryz
section
open Go.Proofs Go.RowKit Go.Sg Go.Shelf CP SF
attribute [local go_sem] Oper.semAt_some
def qQ0 (bd:Nat)(a:Option Addr)(n c:Nat)(w:w9) :
  cP 126 #[A7 bd,sL a n c] w fun e w'=>e = rT (.func (.func 186) #[] #[pO (aP (w+1) 0),pO w])/\(w.alloc (.cells #[A7 bd] 83)).alloc (.cells #[sL a n c] 52)=w':=by
 go_enter func126,ntmps126;go_wp2_with fail
 go_ret;exact⟨rfl,rfl⟩
structure oF where
 page:Nat
 a:Option Addr
 n:Nat
 c:Nat
 part:List Int
abbrev Ri (x:oF):Array Value:=#[iI x.page,sL x.a x.n x.c]
def MO (per:Nat)(L:List Int)(x:oF)(W:w9):Prop:=eO W x.a x.n x.c x.part/\(∀ z ∈ x.part,z ∈ L/\∃ k:Nat,z=k/\k/per=x.page)/\(0<x.n/\x.n<=100000)/\∃ g off c,x.a=some ⟨g,off,none⟩/\W.heap[g]?=some (.cells c 3)
def iF (bs D5 bd:Nat)(A C:w9):Prop:=(∀ (g:Nat) (c:Array Value) (f:Nat × Nat),A.heap[g]?=some (.cells c 3 f)->C.heap[g]?=some (.cells c 3 f))/\C.heap[bs]?=A.heap[bs]?/\C.heap[D5]?=A.heap[D5]?/\(∀ i,C.cell? (aA bd 1)=some i↔A.cell? (aA bd 1)=some i)
variable {bd D5 bs n:Nat}{A C:w9}
def iF.trans {D:w9}(h:iF bs D5 bd A C)(k:iF bs D5 bd C D):iF bs D5 bd A D:=
 ⟨fun g c f hg=>k.1 g c f (h.1 g c f hg),k.2.1.trans h.2.1,k.2.2.1.trans h.2.2.1,fun i=>(k.2.2.2 i).trans (h.2.2.2 i)⟩
def EU {β:Type}{Bn:Nat}{J:β->World->Prop}(hJ:OwnFrom Bn J){s:β}{W W':w9}(h:J s W)(F:Fq W W'):J s W':=
 hJ s W W' none h ⟨F.os,F.tape,F.output,F.size,fun b hb _=>F.block b hb id⟩ (fun r e=>by cases e)
def iF.drewN (bs D5 bd:Nat)(W:w9)(m:Nat):iF bs D5 bd W (W.drewN m):=⟨fun _ _ _ h=>h,rfl,rfl,fun _=>Iff.rfl⟩
def tQ0 {b:Nat}{v:Value}{ks:List Value}(h:A.ownsRow b 3 1 v n ks)(K:iF bs D5 bd A C):C.ownsRow b 3 1 v n ks:=by
 obtain⟨hl,h0|⟨g,cap,cur,hv,hb,hg,r⟩⟩:=h
 .exact⟨hl,.inl h0⟩
 .exact⟨hl,.inr ⟨g,cap,cur,hv,hb,K.1 g cur _ hg,r⟩⟩
def sliceLen:Value->Nat
 | .slice _ m _=>m
 | _=>0
abbrev bM (l:List Int):List Int:=l.mergeSort fun x y=>decide (x<=y)
def mz0 {w:w9}{s:Nat}{x:P1}{a:Option Addr}{c:Nat}{l:List Int}(hs:w.heap[bs]?=some (.cells #[sL a n c] 52))(Pr:w.heap[D5]?=some (.cells #[A7 bd] 83))(hD:N2 w bd s x)(hl:eO w a n c l)(hn:n<=100000)(je:0<x.per/\x.per<=41)(T4:∀ z ∈ l,0<=z/\z<1048577) :
  XS Fence.wide 9 prog 186 #[pO bs,pO D5] Ri (MO x.per l) (iF bs D5 bd) (fun xs=>xs.flatMap (·.part)=bM l) (fun _=>True) n w:=fun lp J Jx W hW hJ hJx hY h0=>by
 have FW:Fq w W:=Fr.of_below hW;have fO:=FW.heap hs id;have JO:=FW.heap Pr id;have uX:N2 W bd s x:=FW.heap hD id;have yD:=hid (si0 (hl.J0 FW) hn);have cs:=G0 fO 0;simp at cs;have HX:=hi2 fO (aI JO (aI uX (aI hl.len (aI T4 h0))));clear hs Pr hD hl T4 fO JO uX hW FW h0;refine callsIn_of_wp func186 rfl trivial ?_ rfl;simp only[ntmps186,zA,lC,cJ,Nat.reduceAdd,Nat.reduceSub,dV,dW,dZ,dX,C7,ak];gi_wp2_with (fail)
 refine (callsIn_wide.2 yD.o).mono ?_;rintro e W1 ⟨v,rfl,A0,F1⟩;have jT:=hid (pM0 A0 (by rw[HX.2.2.2.1];exact hn));have H1:=hi2 A0 F1;clear A0 F1 cs yD;gi_wp2_with (fail)
 refine (callsIn_wide.2 jT.o).mono ?_;rintro e W2 ⟨rfl,N0,F2⟩;have E7:Fq W W2:=H1.2.trans F2 (fun b hb e=>by have:=(O6 H1.1 e).1;omega);have hlen:(bM l).length=n:=by rw[List.length_mergeSort];exact HX.2.2.2.1
 obtain⟨va,vc,rfl,Dz,-,-,-⟩:=A2 N0;have L4:=E7.heap HX.1 id;have ic:=E7.heap HX.2.1 id;have wY:=E7.heap HX.2.2.1 id;have tM:W2.ownsRow W 3 1 (sL va n vc) n ((bM l).map (Value.int .i64)):=by rw[<- hlen];exact N0
 have H2:=hi2 tM (aI L4 (aI ic (aI wY (aI (EU hJ HX.2.2.2.2.2 E7) hlen))));have aW:∀ z ∈ bM l,z ∈ l:=fun z hz=>(List.mergeSort_perm l _).mem_iff.1 hz
 have HM:=hid aW;rw[hlen] at Dz ⊢;clear N0 tM F2 E7 L4 ic wY hlen aW jT H1;gi_wp2
 gi_loopw [4] (fun tv wr=>∃ (q:Nat) (pre:List oF) (ad:Option Addr) (cq:Nat),q<=n/\tv = sL ad (n-q) cq/\(q<n->(∃ g,va=some ⟨g,0,none⟩/\ad=some ⟨g,q,none⟩)/\n-q<=cq)/\J pre wr/\pre.flatMap (·.part)=(bM l).take q/\pre.length<=q/\iF bs D5 bd W2 wr) fun tv _=>sliceLen tv
 case atStart =>
  refine⟨0,[],va,vc,C3 _,rfl,fun h=>⟨?_,Dz⟩,H2.2.2.2.2.1,rfl,nR _,iF.drewN bs D5 bd W2 0⟩;obtain⟨z,hz⟩:∃ z,(bM l)[0]?=some z:=⟨_,gE (by rw[H2.2.2.2.2.2];exact h)⟩
  obtain⟨-,⟨h1,h2⟩|⟨g,cap,cur,hv,_⟩⟩:=H2.1
  .omega
  .cases hv;exact⟨g,rfl,rfl⟩
 case round =>
  obtain⟨q,pre,ad,cq,hq,rfl,jh,lh,hpre,ik,M4⟩:=hrel;by_cases hlt:q<n
  .obtain⟨⟨g,rfl,rfl⟩,JI⟩:=jh hlt;have hd:decide ((0:Int)<((n-q:Nat):Int))=true:=by simp;omega
   have kA:(0:Int)<((n-q:Nat):Int):=oM
   have od:wr.ownsRow W 3 1 (sL (aP g 0) n vc) n ((bM l).map (Value.int .i64)):=tQ0 H2.1 M4;have hcell:∀ (i:Nat) z,(bM l)[i]?=some z->wr.cell? (aA g i)=some (iI z):=fun i z hz=>by
    obtain⟨g',e',_,hc⟩:=d8 od (show ((bM l).map (Value.int .i64))[i]?=some (iI z) by rw[gP,hz];rfl);cases e';exact hc
   have Dj:∀ (i:Nat),i<n->∃ k:Nat,(bM l)[i]?=some (k:Int)/\k<1048577:=fun i hi=>by
    have h1:=gE (l:=bM l) (i:=i) (by rw[H2.2.2.2.2.2];exact hi);have h2:=HX.2.2.2.2.1 _ (HM _ (gM h1));obtain⟨k,hk⟩:=iZ h2.1;exact⟨k,by rw[h1,hk],oM⟩
   obtain⟨k0,iX,Vk⟩:=Dj q hlt;have c0:=hcell q _ iX;have cb:=G0 (M4.2.2.1.trans H2.2.2.1) 0;have cp:=(M4.2.2.2 _).2 (z7 (show N2 W2 bd s x from H2.2.2.2.1)).2.1;simp at cb;have Dq:∀ k:Nat,k<1048577->wrap64 ((k:Int)/(x.per:Int))=((k/x.per:Nat):Int):=fun k hk=>by
    have h1:(k:Int)/(x.per:Int)=((k/x.per:Nat):Int):=sP;have h2:=Mn k x.per;rw[h1];generalize k/x.per=qq at *;simp only[wrap64];omega
   have pS:=Dq k0 Vk;have HC:=hi2 hcell (aI Dj (aI Dq (aI iX (aI lh (aI hpre M4)))));have eB:=je.1;clear od hcell Dj Dq iX lh hpre M4 jh;gi_wp2
   gi_big_quiet_th (fail)
   gi_wp2
   rw[pS];obtain⟨pg,X4⟩:=eX (k0/x.per)
   rw[X4];have HP:=hid X4;obtain⟨r,hr⟩:=eX (n-q)
   have Ns:=hid hr;rw[hr] at JI hd kA ⊢;have hr0:0<r:=oM
   have PH:q+r=n:=oM
   clear X4 hr pS c0;gi_loopw [6] (fun jv wr2=>∃ (j m:Nat),1<=j/\j<=r/\jv = iI j/\wr2=wr.drewN m/\∀ (i:Nat) z,i<j->(bM l)[q+i]?=some z->∃ kk:Nat,z=kk/\kk/x.per=pg) fun jv _=>r-(intOf jv).toNat
   case atStart =>
    refine⟨1,nq,nR _,hr0,rfl,rfl,fun i z hi hz=>?_⟩;obtain rfl:i=0:=oM
    rw[Nat.add_zero,HC.2.2.2.1] at hz;cases hz;exact⟨k0,rfl,HP.o⟩
   case round =>
    obtain⟨j,m,Fj,Px,rfl,rfl,Y2⟩:=hrel;have HA:=hid Y2;clear Y2;have Wc:=Zg (some ⟨g,q,none⟩) r cq j oM;have tt:=Yo (some ⟨g,q,none⟩) r cq j Px;by_cases hgo:j<r/\∃ kk:Nat,(bM l)[q+j]?=some (kk:Int)/\kk/x.per=pg
    .obtain⟨T7,kk,ag,M4⟩:=hgo;have vj:decide ((j:Int)<(r:Int))=true:=sO;have Fk:(j:Int)<(r:Int):=oM;have cj:wr.cell? (aA g (q+j))=some (iI kk):=HC.1 _ _ ag;have CZ:kk<1048577:=by
      obtain⟨k',h1,h2⟩:=HC.2.1 (q+j) oM;rw[ag] at h1;have:=Option.some.inj h1;omega
     have hqj:=HC.2.2.1 kk CZ;rw[M4] at hqj;have tq:((pg:Int) == (pg:Int))=true:=sP;have HK:=hid ag;have Sf:=hid M4;clear ag M4;gi_wp2
     gi_big_quiet_th (fail)
     gi_wp2
     go_roundw;case rel =>
      refine⟨j+1,m+nq,oM,T7,by go_num,by simp[World.drewN,qg],fun i z hi hz=>?_⟩;by_cases CW:i=j
      .subst CW;rw[HK] at hz;cases hz;exact⟨kk,rfl,Sf.o⟩
      .exact HA i z oM hz
     case measure=>exact wM
    .have X9:(((bM l).drop q).take j).length=j:=(by rw[lT,ed,H2.2.2.2.2.2];omega);have X4:∀ i z,(((bM l).drop q).take j)[i]?=some z->i<j/\(bM l)[q+i]?=some z:=fun i z hz=>by
      have hi:=(gI.1 hz).1;rw[X9] at hi;rw[gT,if_pos hi,jJ] at hz;exact⟨hi,hz⟩
     have hG:∀ mm,MO x.per l ⟨pg,some ⟨g,q,none⟩,j,cq,((bM l).drop q).take j⟩ (wr.drewN mm):=fun mm=>by
      have od:wr.ownsRow W 3 1 (sL (aP g 0) n vc) n ((bM l).map (Value.int .i64)):=tQ0 H2.1 HC.2.2.2.2.2.2;obtain⟨-,cg,ib⟩:=O6 od (g:=g) rfl;refine⟨⟨X9,fun i z hz=>?_,fun e=>by cases e⟩,fun z hz=>?_,⟨by show 0<j;omega,by show j<=100000;omega⟩,⟨g,q,cg,rfl,ib⟩⟩
      .obtain⟨hi,Y9⟩:=X4 i z hz;exact⟨g,q,rfl,M0 ib,HC.1 _ _ Y9⟩
      .obtain⟨i,hi⟩:=ou.1 hz;obtain⟨vr,Y9⟩:=X4 i z hi;exact⟨HM z (gM Y9),HA i z vr Y9⟩
     have hfl:∀ (xs:List oF),xs=pre++[⟨pg,some ⟨g,q,none⟩,j,cq,((bM l).drop q).take j⟩]->xs.flatMap (·.part)=(bM l).take (q+j):=fun xs e=>by
      rw[e,dY,HC.2.2.2.2.2.1,List.take_add];simp
     have HG:=hi2 hG hfl;have hjn:j<=n-q:=oM;clear X9 X4 hG hfl;by_cases T7:j<r
     .have vj:decide ((j:Int)<(r:Int))=true:=sO;have Fk:(j:Int)<(r:Int):=oM;obtain⟨kk,ag,CZ⟩:=HC.2.1 (q+j) oM;have hne:kk/x.per≠pg:=fun e=>hgo ⟨T7,kk,ag,e⟩
      have cj:wr.cell? (aA g (q+j))=some (iI kk):=HC.1 _ _ ag;have hqj:=HC.2.2.1 kk CZ;generalize kk/x.per=pk at *
      have tq:((pk:Int) == (pg:Int))=false:=sO;clear hgo ag hne;gi_wp2
      gi_big_quiet_th (fail)
      have pu:=HG.1 (m+nq);obtain⟨fn,tmps,assign,body,hy,mE⟩:=hY pre _ _ (EU hJ HC.2.2.2.2.1 (fR.drewN (m+nq))) pu oM;dsimp only[Ri] at hy;have hdr:(wr.drewN m).drewN nq=wr.drewN (m+nq):=(by simp[World.drewN,qg]);rw[hdr];clear hdr pu;gi_wp2
      refine mE.mono ?_;rintro e W3 (⟨rfl,o6,Q2⟩|⟨rfl,N3⟩)
      .have H3:=hi2 o6 (iF.trans (iF.trans HC.2.2.2.2.2.2 (iF.drewN bs D5 bd wr (m+nq))) Q2);clear o6 Q2;gi_wp2
       go_roundw;case rel =>
        refine⟨q+j,pre++[⟨pg,some ⟨g,q,none⟩,j,cq,((bM l).drop q).take j⟩],some ⟨g,q+j,none⟩,cq-j,oM,?_,fun hq'=>⟨⟨g,rfl,rfl⟩,oM⟩,H3.1,HG.2 _ rfl,by simp;omega,H3.2⟩;rw[show n-(q+j)=r-j by omega]
       case measure=>simp[sliceLen];omega
      .have fV:=hid N3;clear N3;gi_wp2
       refine bodyPost_ret (results_none rfl _ _ _) rfl ?_;exact⟨⟨_,rfl⟩,.inr ⟨_,trivial,fV.o⟩⟩
     .have vj:decide ((j:Int)<(r:Int))=false:=sO;clear hgo;gi_wp2
      gi_big_quiet_th (fail)
      have pu:=HG.1 (m+nq);obtain⟨fn,tmps,assign,body,hy,mE⟩:=hY pre _ _ (EU hJ HC.2.2.2.2.1 (fR.drewN (m+nq))) pu oM;dsimp only[Ri] at hy;have hdr:(wr.drewN m).drewN nq=wr.drewN (m+nq):=(by simp[World.drewN,qg]);rw[hdr];clear hdr pu;gi_wp2
      refine mE.mono ?_;rintro e W3 (⟨rfl,o6,Q2⟩|⟨rfl,N3⟩)
      .have H3:=hi2 o6 (iF.trans (iF.trans HC.2.2.2.2.2.2 (iF.drewN bs D5 bd wr (m+nq))) Q2);clear o6 Q2;gi_wp2
       go_roundw;case rel =>
        refine⟨q+j,pre++[⟨pg,some ⟨g,q,none⟩,j,cq,((bM l).drop q).take j⟩],if cq=j then some ⟨g,q,none⟩ else some ⟨g,q+j,none⟩,cq-j,oM,?_,fun hq'=>absurd hq' oM,H3.1,HG.2 _ rfl,by simp;omega,H3.2⟩;rw[show n-(q+j)=r-j by omega]
       case measure=>simp[sliceLen];omega
      .have fV:=hid N3;clear N3;gi_wp2
       refine bodyPost_ret (results_none rfl _ _ _) rfl ?_;exact⟨⟨_,rfl⟩,.inr ⟨_,trivial,fV.o⟩⟩
  .obtain rfl:q=n:=by omega
   have e0:q-q=0:=DT q;rw[e0];have HC:=hi2 lh hpre;clear lh hpre M4 jh;gi_wp2
   go_end0
   exact⟨⟨_,rfl⟩,.inl ⟨pre,by rw[HC.2,tL (by rw[H2.2.2.2.2.2];exact nR _)],HC.1⟩⟩
end
section
open Go.RowKit Go.Sg Go.Sg.Bits Go.Sg.r4 CP SF
abbrev Gd (y:Cs)(rp:Int)(E0:List Rf)(rest:List Nat)(M:Nat)(K:Prop)(c0:Cont)(per:Nat)(sl:List Rf):Prop:=kL y rp E0 rest M K c0 fun j=>some (P3 (chunk sl per j))
variable {y:Cs}{sl E0:List Rf}{rest:List Nat}{M m:Nat}{K:Prop}{c0:Cont}
def xy0 {rp:Int}{per:Nat}(h:Gd y rp E0 rest M K c0 per sl)(ap:Apart y.taken y.fresh y.dying y.dead)(je:0<per){i:Nat}{q:Rf}(hi:E0[i]?=some q)(hm:kX y q.1.toNat m)(X4:y.pages<=2147483647)(hg:y.gen<9223372036854775808){L:List Nat}(hL:∀ n ∈ L,n/per=i)(r:Rf) :
  Gd (y.put q.1.toNat m (P3 (R4 (chunk sl per i) (L.map (· % per)) r))) rp (E0.set i ((m:Int),(y.gen:Int))) rest M K c0 per (R4 sl L r):=by
 have ht:=pY0 h ap hi hm X4 hg (P3 (R4 (chunk sl per i) (L.map (· % per)) r));have e:(fun j=>if j=i then some (P3 (R4 (chunk sl per i) (L.map (· % per)) r)) else some (P3 (chunk sl per j)))=fun j=>some (P3 (chunk (R4 sl L r) per j)):=by
  funext j
  by_cases hj:j=i
  .subst hj;rw[if_pos rfl,sm0 hL je]
  .rw[if_neg hj,nm0 hL hj]
 rw[e] at ht;exact ht
def ua0 {y':Cs}{x:P1}(h:Gd y x.rp E0 rest M K c0 x.per sl)(ap:Apart y.taken y.fresh y.dying y.dead)(hz:kM y x)(X3:sl.length=x.slots)(r9:E0.length=x.leaves)(jF:∀ r ∈ sl,bh r)(hm:kX y x.rp.toNat m)(he:y'=y.put x.rp.toNat m (P3 E0)) :
  dH y' { x with rp:=m,rs:=y.gen } E0 sl/\Live y' (B2 m E0++rest) M/\(K->oX y' (B2 m E0++rest))/\(∀ k ∈ rest,y'.cont k=c0 k)/\(Like y y'/\y'.gen=y.gen/\y'.dead=y.dead):=by
 subst he;obtain⟨ht,hc⟩:=pT0 h ap hm (P3 E0);obtain⟨l1,l2,l3⟩:=EP y x.rp.toNat m (P3 E0);refine⟨⟨⟨hz.most,⟨hz.per.1,by rw[l1.room];exact hz.per.2⟩,fun d hd=>by rw[l1.room];exact hz.fits d hd,by rw[l1.room];exact hz.room⟩,X3,r9,⟨jF,ht.right,fun i r hi=>ht.cont i r _ hi rfl⟩,⟨by simp,by simp⟩,by simpa using hc⟩,ht.live,ht.calm,ht.keep,l1,l2,l3⟩
def oj0 {l:List Int}{r:Rf}:R4 sl ((bM l).map Int.toNat) r=R4 sl (l.map Int.toNat) r:=
 ub0 fun n=>by
  rw[N4,N4];constructor
  .rintro⟨z,hz,e⟩;exact⟨z,(List.mergeSort_perm l _).mem_iff.1 hz,e⟩
  .rintro⟨z,hz,e⟩;exact⟨z,(List.mergeSort_perm l _).mem_iff.2 hz,e⟩
