/- A pack of texts. Conditions: those that each names. -/
import Derived.Test.YtgdhaaokolfdoaaGreatDoorNAW
set_option maxHeartbeats 16000000
set_option maxRecDepth 100000
set_option linter.all false
namespace Go.Proofs.YtgdhaaokolfdoaaGreatDoor
open Go.RowKit Go.Sg CP SF
theorem pN0 (x:Bt)(b:Bool)(w:World)(hR:∀ W g,W.heap[g]?=some (.cells #[.int .u64 x.hash,.int .i64 x.rg,.int .i64 x.at_,.int .i64 x.sz] 110)->w.heap.size<=g->Fq w W->Calls Tryz.prog 128 #[bkV 0 0 (.slice (some ⟨g,0,none⟩) 1 1),.int .i64 1] W (ec0 (.bool b) W)):Calls Tryz.prog 63 #[btV x] w (ec0 (.bool b) w):=by
 obtain⟨w1,hw1⟩:=eX (w.alloc (.cells #[.int .u64 x.hash,.int .i64 x.rg,.int .i64 x.at_,.int .i64 x.sz] 110))
 have b1:w1.heap[w.heap.size]?=some (.cells #[.int .u64 x.hash,.int .i64 x.rg,.int .i64 x.at_,.int .i64 x.sz] 110):=by rw[<- hw1];exact han _ _
 have F1:Fq w w1:=by rw[<- hw1];exact (Fr.refl _ _).alloc _
 obtain⟨c0,c1,c2,c3,cz,cl⟩:=ah0 b1;have HF1:=hid F1;have HW:=hid hw1;have HR:=hid hR;clear hR hw1 b1 F1;go_enter Tryz.func63,Tryz.ntmps63;go_upto_region 1 with fail
 rw[HW.out];go_wp2_with fail
 refine (HR.out _ w1.heap.size (han _ _) HF1.out.size (HF1.out.alloc _)).mono ?_;rintro e w2 ⟨rfl,F2⟩;have HF2:=hid ((HF1.out.alloc _).trans F2 nI);clear F2 c0 c1 c2 c3 cz cl;go_wp2_with fail
 refine bodyPost_ret (v:=.bool b) sR rfl ⟨rfl,?_⟩;exact HF2.out
end Go.Proofs.YtgdhaaokolfdoaaGreatDoor
namespace Go.Sg
open Go.RowKit
variable {F:Fence}{n:Nat}{P:Program}
def mz0 {α:Type}(F:Fence)(n:Nat)(P:Program)(g:Nat)(lb:Array Value)(encs:α->Array Value)(T:α->World->Prop)(Kp:World->World->Prop)(S Sp:List α->Prop)(N:Nat)(w:World):Prop:=
 ∀ (l:Nat) (J Jx:List α->World->Prop) (W:World),Below w.heap.size w W->OwnFrom W.heap.size J->OwnFrom W.heap.size Jx ->
  (∀ pre x W1,J pre W1->T x W1->pre.length<N->YieldAt F (n-1) P l (encs x) W1 fun e W'=>(e = .returned (.bool true)/\J (pre++[x]) W'/\Kp W1 W')\/(e = .returned (.bool false)/\Jx (pre++[x]) W')) ->
  J [] W->CallsIn F n P g (#[.func (.yield l) #[] #[]]++lb) W fun e W'=>(∃ v,e = .returned v)/\((∃ xs,S xs/\J xs W')\/(∃ pre,Sp pre/\Jx pre W'))
theorem dP0 {α:Type}{g:Operand}{ps:Array Tmp}{assign body:Code}{Q:Exit->Act->World->Prop}{a:Act}{w:World}
  (hro:F.round=none) (h1:1<=n) {gf:Nat} {lb:Array Value} (hg:a.eval g = .func (.func gf) #[] lb) (hFg:F.fn gf) (eg:∀ args w,(callFunc gf args).run P w = .ok (.enter gf args) w)
  {encs:α->Array Value} {Kp:World->World->Prop} {S Sp:List α->Prop} {N:Nat} {w0:World} {T:α->World->Prop} (I:List α->World->Prop) (hseq:mz0 F (n-1) P gf lb encs T Kp S Sp N w0)
  (hKt:∀ {A B C:World},Kp A B->Kp B C->Kp A C) (hKb:∀ (W:World) (l:Nat) (o o':Obj),w.heap.size<=l->W.heap[l]?=some o->o.isCells=false->o.isWalk=false->Kp W (W.putObj l o'))
  (hb0:Below w0.heap.size w0 w) (hps:∀ x,(encs x).size=ps.size)
  (Ix:Code->List α->World->Prop) (hI:OwnFrom w.heap.size I) (hIx:∀ c,OwnFrom w.heap.size (Ix c)) (h0:I [] w) (Ax:α->Act->World->Prop) (hAx:∀ x a',OwnFrom w.heap.size (fun (_:Unit) W=>Ax x a' W))
  (hassign:∀ (l:Nat) (pre:List α) (x:α) (W:World) (K:Act->World->Prop),I pre W->T x W->(∀ a' W',KeepsFrom w.heap.size W W'->Kp W W'->I pre W'->Ax x a' W'->K a' W') ->
   assign.wpIn (F.inRound l) (n-1-1) P (Exit.then K (fun _ _ _=>False)) { tmps:=(ps.zip (encs x)).foldl (fun t (p,v)=>t.setIfInBounds p v) a.tmps,defers:=[] } W)
  (hbody:∀ (l:Nat) (pre:List α) (x:α) (a':Act) (W:World),w.heap.size<=l->(∃ r,W.heap[l]?=some (.loop r))->I pre W->Ax x a' W->pre.length<N->body.wpIn (F.inRound l) (n-1-1) P (jV0 w.heap.size Kp I Ix (pre++[x]) W) a' W)
  (hdone:∀ (D:Nat) (xs:List α) (W:World),w.heap.size<=D->S xs->I xs W->W.heap[D]?=some (.deferred (some []))->Q .normal { a with defers:={ target:=.collected D,args:=#[] } :: a.defers } W)
  (hstop:∀ (D:Nat) (c:Code) (pre:List α) (W:World),w.heap.size<=D->Sp pre->Ix c pre W->W.heap[D]?=some (.deferred (some []))->c.wpIn F n P Q { a with defers:={ target:=.collected D,args:=#[] } :: a.defers } W) :
  (Code.rangeFunc g ps assign body).wpIn F n P Q a w:=by
 refine wpIn_rangeFunc fun fn hfn=>?_
 rw[hro];-- the loop's record,in whatever state
 let rec_:LoopState->Option Code->Loop:=fun st pe=>{ state:=st,pending:=pe,fn,tmps:=a.tmps,params:=ps,assign,body,defers:=w.heap.size }
 obtain⟨rd,hrd⟩:=xe rec_
 have rst:∀ st pe,(rd st pe).state=st:=fun st pe=>by rw[hrd]
 have rpe:∀ st pe,(rd st pe).pending=pe:=fun st pe=>by rw[hrd]
 obtain⟨L,hL⟩:=xe (w.heap.size+1)
 obtain⟨W1,hW1⟩:=eX ((w.alloc (.deferred (some []))).alloc (.loop (rd .ready none)))
 obtain⟨hD1,hL1,F1⟩:=ai0 hW1;rw[<- hL] at hL1;have hI1:I [] W1:=by rw[<- hW1];exact hI.alloc _ (hI.alloc _ h0)
 have hb1:Below w0.heap.size w0 W1:=by
  refine hb0.trans ((Fr.below (S:=fun _=>False) F1 nI).mono hb0.size)
 have hs1:W1.heap.size=w.heap.size+2:=by rw[<- hW1];simp
 refine⟨L,[{ target:=.collected w.heap.size,args:=#[] }],W1,{ target:=.fn (.func gf) lb,args:=#[.func (.yield L) #[] #[]] },W1,gf,#[.func (.yield L) #[] #[]]++lb,W1,?_,?_,?_,?_,fun _=>h1,?_⟩
 ·rw[<- hW1,hL,hrd];exact run_enterLoop_outer _ _ _ _ _
 ·simp only[resolve,hg];simp[go_sem]
 ·intro f' hf';simp[Target.leads] at hf';subst hf';exact hFg
 ·simp[invoke,go_sem,eg]
 have hwalk:∀ {A:World} {row:Option Nat},(∀ r,row=some r->W1.heap.size<=r/\∃ o:Obj,A.heap[r]?=some o/\o.isCells=false)->(∀ r,row=some r->w.heap.size<=r/\∃ o:Obj,A.heap[r]?=some o/\o.isCells=false):=
  fun hr r e=>by obtain⟨hB,h⟩:=hr r e;exact⟨oM,h⟩
 have hold:∀ {A B:World} {row:Option Nat} {b:Nat} {o:Obj},A.grownBy B row->(∀ r,row=some r->W1.heap.size<=r/\∃ o:Obj,A.heap[r]?=some o/\o.isCells=false)->b<W1.heap.size->A.heap[b]?=some o->B.heap[b]?=some o:=
  fun hg' hr hb ho=>(hg'.block _ (loh ho) (fun e=>by have:=(hr _ e.symm).1;omega)).trans ho
 have hY:∀ pre x W,(I pre W/\W.heap[L]?=some (.loop (rd .ready none))/\W.heap[w.heap.size]?=some (.deferred (some [])))->T x W->pre.length<N ->
   YieldAt F (n-1-1) P L (encs x) W fun e W'=>(e = .returned (.bool true)/\(I (pre++[x]) W'/\W'.heap[L]?=some (.loop (rd .ready none))/\W'.heap[w.heap.size]?=some (.deferred (some [])))/\Kp W W') \/
    (e = .returned (.bool false)/\∃ c,Ix c (pre++[x]) W'/\W'.heap[L]?=some (.loop (rd .done (some c)))/\W'.heap[w.heap.size]?=some (.deferred (some []))):=by
  rintro pre x W ⟨hi,hl,hk⟩ hT hlen;have hy:=run_yield (P:=P) (args:=encs x) hl (by rw[hrd];exact hps x);rw[hrd] at hy;refine⟨fn,_,assign,body,hy,roundIn_of_wpIn hfn (hassign _ pre x W _ hi hT fun a' Wa hka hkp hia hax=>?_)⟩;have hla:=hka.same _ _ oM hl rfl;have hka':=hka.same _ _ (nR _) hk rfl;have hlt:L<Wa.heap.size:=loh hla;refine⟨_,run_beginRound hla (rst _ _),?_⟩;obtain⟨busy,hbusy⟩:∃ busy:Loop,{ rd .ready none with state:=.busy }=busy:=⟨_,rfl⟩
  rw[hbusy];have hl2:(Wa.putObj L (.loop busy)).heap[L]?=some (.loop busy):=World.putObj_heap_same hlt;have hk2:(Wa.putObj L (.loop busy)).heap[w.heap.size]?=some (.deferred (some [])):=(World.putObj_heap_other oM).trans hka';refine wpIn_mono (hbody _ pre x a' _ oM ⟨_,hl2⟩ (hI.putObj _ hia oM hla rfl) ((hAx x a').putObj (s:=()) _ hax oM hla rfl) hlen) ?_;have fin:∀ (jump:Option Code) (W3:World),KeepsFrom w.heap.size (Wa.putObj L (.loop busy)) W3 ->
    (Instr.endRound L jump).run P W3 = .ok (.bool jump.isNone) (W3.putObj L (.loop (rd (if jump.isNone then .ready else .done) jump)))/\W3.heap[L]?=some (.loop busy) /\
    (W3.putObj L (.loop (rd (if jump.isNone then .ready else .done) jump))).heap[L]?=some (.loop (rd (if jump.isNone then .ready else .done) jump)) /\
    (W3.putObj L (.loop (rd (if jump.isNone then .ready else .done) jump))).heap[w.heap.size]?=some (.deferred (some [])):=fun jump W3 hk3=>by
   have hl3:=hk3.same _ _ oM hl2 rfl;refine⟨?_,hl3,World.putObj_heap_same (loh hl3),(World.putObj_heap_other oM).trans (hk3.same _ _ (nR _) hk2 rfl)⟩;have:=run_endRound (P:=P) jump hl3;rw[<- hbusy,hrd] at this;rw[hrd];exact this
  have hw2:Kp Wa (Wa.putObj L (.loop busy)):=hKb _ _ _ _ oM hla rfl rfl;rintro e a3 W3 hp;have out:∀ c,KeepsFrom w.heap.size (Wa.putObj L (.loop busy)) W3/\Ix c (pre++[x]) W3->∃ v W4,(Instr.endRound L (some c)).run P W3 = .ok v W4/\((Ending.returned v = .returned (.bool true)/\(I (pre++[x]) W4/\W4.heap[L]?=some (.loop (rd .ready none))/\W4.heap[w.heap.size]?=some (.deferred (some [])))/\Kp W W4) \/
    (Ending.returned v = .returned (.bool false)/\∃ c,Ix c (pre++[x]) W4/\W4.heap[L]?=some (.loop (rd .done (some c)))/\W4.heap[w.heap.size]?=some (.deferred (some [])))):=by
   rintro c ⟨hk3,hi3⟩;obtain⟨hr,hl3,hl4,hk4⟩:=fin (some c) W3 hk3;exact⟨_,_,hr,.inr ⟨rfl,c,(hIx c).putObj _ hi3 oM hl3 rfl,hl4,hk4⟩⟩
  cases e with
  | normal =>
   obtain⟨hk3,hkp3,hi3⟩:=hp;obtain⟨hr,hl3,hl4,hk4⟩:=fin none W3 hk3;exact⟨_,_,hr,.inl ⟨rfl,⟨hI.putObj _ hi3 oM hl3 rfl,hl4,hk4⟩,hKt hkp (hKt (hKt hw2 hkp3) (hKb _ _ _ _ oM hl3 rfl rfl))⟩⟩
  | ret=>exact out _ hp
  | exit id=>exact out _ hp
  | goto t=>exact out _ hp
  | panic ch=>exact hp.elim
  | outgrown=>exact hp.elim
 have hcall:=hseq L (fun pre W=>I pre W/\W.heap[L]?=some (.loop (rd .ready none))/\W.heap[w.heap.size]?=some (.deferred (some [])))
  (fun pre W=>∃ c,Ix c pre W/\W.heap[L]?=some (.loop (rd .done (some c)))/\W.heap[w.heap.size]?=some (.deferred (some []))) W1 hb1
  (fun s A B row hs hg' hr=>⟨hI s A B row hs.1 hg' (hwalk hr),hold hg' hr oM hs.2.1,hold hg' hr oM hs.2.2⟩)
  (fun s A B row hs hg' hr=>by
   obtain⟨c,hc,hl,hk⟩:=hs;exact⟨c,hIx c s A B row hc hg' (hwalk hr),hold hg' hr oM hl,hold hg' hr oM hk⟩)
  hY ⟨hI1,hL1,hD1⟩
 refine hcall.mono ?_;rintro e W2 ⟨⟨v,rfl⟩,(⟨xs,hS,hi,hl,hk⟩|⟨pre,hSp,c,hi,hl,hk⟩)⟩
 ·have hr:=run_endLoop (P:=P) hl (by rw[rst];simp);rw[rpe] at hr;exact⟨none,_,hr,hdone _ xs _ (nR _) hS (hI.putObj _ hi oM hl rfl) ((World.putObj_heap_other oM).trans hk)⟩
 ·have hr:=run_endLoop (P:=P) hl (by rw[rst];simp);rw[rpe] at hr;exact⟨some c,_,hr,hstop _ c pre _ (nR _) hSp ((hIx c).putObj _ hi oM hl rfl) ((World.putObj_heap_other oM).trans hk)⟩
end Go.Sg
namespace Go.Proofs.YtgdhaaokolfdoaaGreatDoor
section
open Go.Proofs Go.RowKit Go.Sg Go.Shelf CP SF
attribute [local go_sem] Oper.semAt_some
theorem pn0 (bd:Nat)(a:Option Addr)(n c:Nat)(w:World) :
  Calls Tryz.prog 126 #[cR0 bd,.slice a n c] w fun e w'=>e = .returned (.func (.func 186) #[] #[.pointer (some ⟨w.heap.size+1,0,none⟩),.pointer (some ⟨w.heap.size,0,none⟩)])/\(w.alloc (.cells #[cR0 bd] 83)).alloc (.cells #[.slice a n c] 52)=w':=by
 go_enter Tryz.func126,Tryz.ntmps126;go_wp2_with fail
 go_ret;exact⟨rfl,rfl⟩
structure Grp where
 page:Nat
 a:Option Addr
 n:Nat
 c:Nat
 part:List Int
abbrev Ae0 (x:Grp):Array Value:=#[.int .i64 x.page,.slice x.a x.n x.c]
def zZ0 (per:Nat)(L:List Int)(x:Grp)(W:World):Prop:=SlI W x.a x.n x.c x.part/\(∀ z ∈ x.part,z ∈ L/\∃ k:Nat,z=k/\k/per=x.page)/\(0<x.n/\x.n<=100000)/\∃ g off c,x.a=some ⟨g,off,none⟩/\W.heap[g]?=some (.cells c 3)
def KpG (bs bdir bd:Nat)(A C:World):Prop:=(∀ (g:Nat) (c:Array Value) (f:Nat × Nat),A.heap[g]?=some (.cells c 3 f)->C.heap[g]?=some (.cells c 3 f))/\C.heap[bs]?=A.heap[bs]?/\C.heap[bdir]?=A.heap[bdir]?/\(∀ i,C.cell? ⟨bd,1,none⟩=some i↔A.cell? ⟨bd,1,none⟩=some i)
variable {bd bdir bs n:Nat}{A C:World}
theorem KpG.trans {D:World}(h:KpG bs bdir bd A C)(k:KpG bs bdir bd C D):KpG bs bdir bd A D:=
 ⟨fun g c f hg=>k.1 g c f (h.1 g c f hg),k.2.1.trans h.2.1,k.2.2.1.trans h.2.2.1,fun i=>(k.2.2.2 i).trans (h.2.2.2 i)⟩
theorem fW0 {β:Type}{Bn:Nat}{J:β->World->Prop}(hJ:OwnFrom Bn J){s:β}{W W':World}(h:J s W)(F:Fq W W'):J s W':=
 hJ s W W' none h ⟨F.os,F.tape,F.output,F.size,fun b hb _=>F.block b hb id⟩ (fun r e=>by cases e)
theorem KpG.drewN (bs bdir bd:Nat)(W:World)(m:Nat):KpG bs bdir bd W (W.drewN m):=⟨fun _ _ _ h=>h,rfl,rfl,fun _=>Iff.rfl⟩
theorem rK0 {b:Nat}{v:Value}{ks:List Value}(h:A.ownsRow b 3 1 v n ks)(K:KpG bs bdir bd A C):C.ownsRow b 3 1 v n ks:=by
 obtain⟨hl,h0|⟨g,cap,cur,hv,hb,hg,r⟩⟩:=h
 ·exact⟨hl,.inl h0⟩
 ·exact⟨hl,.inr ⟨g,cap,cur,hv,hb,K.1 g cur _ hg,r⟩⟩
def sliceLen:Value->Nat
 | .slice _ m _=>m
 | _=>0
abbrev cf0 (l:List Int):List Int:=l.mergeSort (fun x y=>decide (x<=y))
theorem lr0 {w:World}{s:Nat}{x:aL0}{a:Option Addr}{c:Nat}{l:List Int}(hs:w.heap[bs]?=some (.cells #[.slice a n c] 52))(hdb:w.heap[bdir]?=some (.cells #[cR0 bd] 83))(hD:aj0 w bd s x)(hl:SlI w a n c l)(hn:n<=100000)(hper:0<x.per/\x.per<=41)(hin:∀ z ∈ l,0<=z/\z<1048577) :
  mz0 Fence.wide 9 Tryz.prog 186 #[.pointer (some ⟨bs,0,none⟩),.pointer (some ⟨bdir,0,none⟩)] Ae0 (zZ0 x.per l) (KpG bs bdir bd) (fun xs=>xs.flatMap (·.part)=cf0 l) (fun _=>True) n w:=fun lp J Jx W hW hJ hJx hY h0=>by
 have FW:Fq w W:=Fr.of_below hW;have hs':=FW.heap hs id;have hdb':=FW.heap hdb id;have hD':aj0 W bd s x:=FW.heap hD id;have HCl:=hid (qS0 (hl.fr0 FW) hn);have cs:=coh hs' 0;simp at cs;have HX:=hi2 hs' (aI hdb' (aI hD' (aI hl.len (aI hin h0))));clear hs hdb hD hl hin hs' hdb' hD' hW FW h0;refine callsIn_of_wp Tryz.func186 rfl trivial ?_ rfl;simp only[Tryz.ntmps186,zA,lC,lz9,Nat.reduceAdd,Nat.reduceSub,lq9,lr9,ly9,ls9,le9,lo9];gi_wp2_with (fail)
 refine (callsIn_wide.2 HCl.out).mono ?_;rintro e W1 ⟨v,rfl,hown,F1⟩;have HSo:=hid (vv0 hown (by rw[HX.out.2.2.2.1];exact hn));have H1:=hi2 hown F1;clear hown F1 cs HCl;gi_wp2_with (fail)
 refine (callsIn_wide.2 HSo.out).mono ?_;rintro e W2 ⟨rfl,hown2,F2⟩;have F02:Fq W W2:=H1.out.2.trans F2 (fun b hb e=>by have:=(oBT H1.out.1 e).1;omega);have hlen:(cf0 l).length=n:=by rw[List.length_mergeSort];exact HX.out.2.2.2.1
 obtain⟨va,vc,rfl,hvc,-,-,-⟩:=oSl hown2;have hb2:=F02.heap HX.out.1 id;have hd2:=F02.heap HX.out.2.1 id;have hD2:=F02.heap HX.out.2.2.1 id;have hown2':W2.ownsRow W.heap.size 3 1 (.slice va n vc) n ((cf0 l).map (Value.int .i64)):=by rw[<- hlen];exact hown2
 have H2:=hi2 hown2' (aI hb2 (aI hd2 (aI hD2 (aI (fW0 hJ HX.out.2.2.2.2.2 F02) hlen))));have hmem:∀ z ∈ cf0 l,z ∈ l:=fun z hz=>(List.mergeSort_perm l _).mem_iff.1 hz
 have HM:=hid hmem;rw[hlen] at hvc ⊢;clear hown2 hown2' F2 F02 hb2 hd2 hD2 hlen hmem HSo H1;gi_wp2
 gi_loopw [4] (fun tv wr=>∃ (q:Nat) (pre:List Grp) (ad:Option Addr) (cq:Nat),q<=n/\tv = .slice ad (n-q) cq/\(q<n->(∃ g,va=some ⟨g,0,none⟩/\ad=some ⟨g,q,none⟩)/\n-q<=cq)/\J pre wr/\pre.flatMap (·.part)=(cf0 l).take q/\pre.length<=q/\KpG bs bdir bd W2 wr) (fun tv _=>sliceLen tv)
 case atStart =>
  refine⟨0,[],va,vc,la9 _,rfl,fun h=>⟨?_,hvc⟩,H2.out.2.2.2.2.1,rfl,nR _,KpG.drewN bs bdir bd W2 0⟩;obtain⟨z,hz⟩:∃ z,(cf0 l)[0]?=some z:=⟨_,gE (by rw[H2.out.2.2.2.2.2];exact h)⟩
  obtain⟨-,⟨h1,h2⟩|⟨g,cap,cur,hv,_⟩⟩:=H2.out.1
  ·omega
  ·cases hv;exact⟨g,rfl,rfl⟩
 case round =>
  obtain⟨q,pre,ad,cq,hq,rfl,hsub,hJp,hpre,hplen,hkp⟩:=hrel;by_cases hlt:q<n
  ·obtain⟨⟨g,rfl,rfl⟩,hcq⟩:=hsub hlt;have hd:decide ((0:Int)<((n-q:Nat):Int))=true:=by simp;omega
   have hd0:(0:Int)<((n-q:Nat):Int):=oM
   have hownr:wr.ownsRow W.heap.size 3 1 (.slice (some ⟨g,0,none⟩) n vc) n ((cf0 l).map (Value.int .i64)):=rK0 H2.out.1 hkp;have hcell:∀ (i:Nat) z,(cf0 l)[i]?=some z->wr.cell? ⟨g,i,none⟩=some (.int .i64 z):=fun i z hz=>by
    obtain⟨g',e',_,hc⟩:=al0 hownr (show ((cf0 l).map (Value.int .i64))[i]?=some (.int .i64 z) by rw[gP,hz];rfl);cases e';exact hc
   have hnat:∀ (i:Nat),i<n->∃ k:Nat,(cf0 l)[i]?=some (k:Int)/\k<1048577:=fun i hi=>by
    have h1:=gE (l:=cf0 l) (i:=i) (by rw[H2.out.2.2.2.2.2];exact hi);have h2:=HX.out.2.2.2.2.1 _ (HM.out _ (gM h1));obtain⟨k,hk⟩:=iZ h2.1;exact⟨k,by rw[h1,hk],oM⟩
   obtain⟨k0,hk0,hk0b⟩:=hnat q hlt;have c0:=hcell q _ hk0;have cb:=coh (hkp.2.2.1.trans H2.out.2.2.1) 0;have cp:=(hkp.2.2.2 _).2 (aU0 (show aj0 W2 bd s x from H2.out.2.2.2.1)).2.1;simp at cb;have hquo:∀ k:Nat,k<1048577->wrap64 ((k:Int)/(x.per:Int))=((k/x.per:Nat):Int):=fun k hk=>by
    have h1:(k:Int)/(x.per:Int)=((k/x.per:Nat):Int):=sP;have h2:=nb9 k x.per;rw[h1];generalize k/x.per=qq at *;simp only[wrap64];omega
   have hq0:=hquo k0 hk0b;have HC:=hi2 hcell (aI hnat (aI hquo (aI hk0 (aI hJp (aI hpre hkp)))));have hp0:=hper.1;clear hownr hcell hnat hquo hk0 hJp hpre hkp hsub;gi_wp2
   gi_big_quiet_th (fail)
   gi_wp2
   rw[hq0];obtain⟨pg,hpg⟩:=eX (k0/x.per)
   rw[hpg];have HP:=hid hpg;obtain⟨r,hr⟩:=eX (n-q)
   have HRr:=hid hr;rw[hr] at hcq hd hd0 ⊢;have hr0:0<r:=oM
   have hrn:q+r=n:=oM
   clear hpg hr hq0 c0;gi_loopw [6] (fun jv wr2=>∃ (j m:Nat),1<=j/\j<=r/\jv = .int .i64 j/\wr2=wr.drewN m/\∀ (i:Nat) z,i<j->(cf0 l)[q+i]?=some z->∃ kk:Nat,z=kk/\kk/x.per=pg) (fun jv _=>r-(intOf jv).toNat)
   case atStart =>
    refine⟨1,nq,nR _,hr0,rfl,rfl,fun i z hi hz=>?_⟩;obtain rfl:i=0:=oM
    rw[Nat.add_zero,HC.out.2.2.2.1] at hz;cases hz;exact⟨k0,rfl,HP.out⟩
   case round =>
    obtain⟨j,m,hj1,hjr,rfl,rfl,hall⟩:=hrel;have HA:=hid hall;clear hall;have hto:=BL0 (some ⟨g,q,none⟩) r cq j oM;have hfrom:=yL0 (some ⟨g,q,none⟩) r cq j hjr;by_cases hgo:j<r/\∃ kk:Nat,(cf0 l)[q+j]?=some (kk:Int)/\kk/x.per=pg
    ·obtain⟨hlt2,kk,hkk,hkp⟩:=hgo;have hdj:decide ((j:Int)<(r:Int))=true:=sO;have hji:(j:Int)<(r:Int):=oM;have cj:wr.cell? ⟨g,q+j,none⟩=some (.int .i64 kk):=HC.out.1 _ _ hkk;have hkb:kk<1048577:=by
      obtain⟨k',h1,h2⟩:=HC.out.2.1 (q+j) oM;rw[hkk] at h1;have:=Option.some.inj h1;omega
     have hqj:=HC.out.2.2.1 kk hkb;rw[hkp] at hqj;have heq:((pg:Int) == (pg:Int))=true:=sP;have HK:=hid hkk;have HKP:=hid hkp;clear hkk hkp;gi_wp2
     gi_big_quiet_th (fail)
     gi_wp2
     go_roundw;case rel =>
      refine⟨j+1,m+nq,oM,hlt2,by go_num,by simp[World.drewN,mw9],fun i z hi hz=>?_⟩;by_cases hij:i=j
      ·subst hij;rw[HK.out] at hz;cases hz;exact⟨kk,rfl,HKP.out⟩
      ·exact HA.out i z oM hz
     case measure=>simp[intOf];omega
    ·have hpl:(((cf0 l).drop q).take j).length=j:=(by rw[lT,lv9,H2.out.2.2.2.2.2];omega);have hpg:∀ i z,(((cf0 l).drop q).take j)[i]?=some z->i<j/\(cf0 l)[q+i]?=some z:=fun i z hz=>by
      have hi:=(gI.1 hz).1;rw[hpl] at hi;rw[gT,if_pos hi,lB9] at hz;exact⟨hi,hz⟩
     have hG:∀ mm,zZ0 x.per l ⟨pg,some ⟨g,q,none⟩,j,cq,((cf0 l).drop q).take j⟩ (wr.drewN mm):=fun mm=>by
      have hownr:wr.ownsRow W.heap.size 3 1 (.slice (some ⟨g,0,none⟩) n vc) n ((cf0 l).map (Value.int .i64)):=rK0 H2.out.1 HC.out.2.2.2.2.2.2;obtain⟨-,cg,hcg⟩:=oBT hownr (g:=g) rfl;refine⟨⟨hpl,fun i z hz=>?_,fun e=>by cases e⟩,fun z hz=>?_,⟨by show 0<j;omega,by show j<=100000;omega⟩,⟨g,q,cg,rfl,hcg⟩⟩
      ·obtain⟨hi,hz'⟩:=hpg i z hz;exact⟨g,q,rfl,loh hcg,HC.out.1 _ _ hz'⟩
      ·obtain⟨i,hi⟩:=lC9.1 hz;obtain⟨hi',hz'⟩:=hpg i z hi;exact⟨HM.out z (gM hz'),HA.out i z hi' hz'⟩
     have hfl:∀ (xs:List Grp),xs=pre++[⟨pg,some ⟨g,q,none⟩,j,cq,((cf0 l).drop q).take j⟩]->xs.flatMap (·.part)=(cf0 l).take (q+j):=fun xs e=>by
      rw[e,li9,HC.out.2.2.2.2.2.1,List.take_add];simp
     have HG:=hi2 hG hfl;have hjn:j<=n-q:=oM;clear hpl hpg hG hfl;by_cases hlt2:j<r
     ·have hdj:decide ((j:Int)<(r:Int))=true:=sO;have hji:(j:Int)<(r:Int):=oM;obtain⟨kk,hkk,hkb⟩:=HC.out.2.1 (q+j) oM;have hne:kk/x.per≠pg:=fun e=>hgo ⟨hlt2,kk,hkk,e⟩
      have cj:wr.cell? ⟨g,q+j,none⟩=some (.int .i64 kk):=HC.out.1 _ _ hkk;have hqj:=HC.out.2.2.1 kk hkb;generalize kk/x.per=pk at *
      have heq:((pk:Int) == (pg:Int))=false:=sO;clear hgo hkk hne;gi_wp2
      gi_big_quiet_th (fail)
      have hGm:=HG.out.1 (m+nq);obtain⟨fn,tmps,assign,body,hy,hRR⟩:=hY pre _ _ (fW0 hJ HC.out.2.2.2.2.1 ((Fr.refl _ _).drewN (m+nq))) hGm oM;dsimp only[Ae0] at hy;have hdr:(wr.drewN m).drewN nq=wr.drewN (m+nq):=(by simp[World.drewN,mw9]);rw[hdr];clear hdr hGm;gi_wp2
      refine hRR.mono ?_;rintro e W3 (⟨rfl,hJ3,hk3⟩|⟨rfl,hJx3⟩)
      ·have H3:=hi2 hJ3 (KpG.trans (KpG.trans HC.out.2.2.2.2.2.2 (KpG.drewN bs bdir bd wr (m+nq))) hk3);clear hJ3 hk3;gi_wp2
       go_roundw;case rel =>
        refine⟨q+j,pre++[⟨pg,some ⟨g,q,none⟩,j,cq,((cf0 l).drop q).take j⟩],some ⟨g,q+j,none⟩,cq-j,oM,?_,fun hq'=>⟨⟨g,rfl,rfl⟩,oM⟩,H3.out.1,HG.out.2 _ rfl,by simp;omega,H3.out.2⟩;rw[show n-(q+j)=r-j by omega]
       case measure=>simp[sliceLen];omega
      ·have HJX:=hid hJx3;clear hJx3;gi_wp2
       refine bodyPost_ret (results_none rfl _ _ _) rfl ?_;exact⟨⟨_,rfl⟩,.inr ⟨_,trivial,HJX.out⟩⟩
     ·have hdj:decide ((j:Int)<(r:Int))=false:=sO;clear hgo;gi_wp2
      gi_big_quiet_th (fail)
      have hGm:=HG.out.1 (m+nq);obtain⟨fn,tmps,assign,body,hy,hRR⟩:=hY pre _ _ (fW0 hJ HC.out.2.2.2.2.1 ((Fr.refl _ _).drewN (m+nq))) hGm oM;dsimp only[Ae0] at hy;have hdr:(wr.drewN m).drewN nq=wr.drewN (m+nq):=(by simp[World.drewN,mw9]);rw[hdr];clear hdr hGm;gi_wp2
      refine hRR.mono ?_;rintro e W3 (⟨rfl,hJ3,hk3⟩|⟨rfl,hJx3⟩)
      ·have H3:=hi2 hJ3 (KpG.trans (KpG.trans HC.out.2.2.2.2.2.2 (KpG.drewN bs bdir bd wr (m+nq))) hk3);clear hJ3 hk3;gi_wp2
       go_roundw;case rel =>
        refine⟨q+j,pre++[⟨pg,some ⟨g,q,none⟩,j,cq,((cf0 l).drop q).take j⟩],if cq=j then some ⟨g,q,none⟩ else some ⟨g,q+j,none⟩,cq-j,oM,?_,fun hq'=>absurd hq' oM,H3.out.1,HG.out.2 _ rfl,by simp;omega,H3.out.2⟩;rw[show n-(q+j)=r-j by omega]
       case measure=>simp[sliceLen];omega
      ·have HJX:=hid hJx3;clear hJx3;gi_wp2
       refine bodyPost_ret (results_none rfl _ _ _) rfl ?_;exact⟨⟨_,rfl⟩,.inr ⟨_,trivial,HJX.out⟩⟩
  ·obtain rfl:q=n:=by omega
   have e0:q-q=0:=nq9 q;rw[e0];have HC:=hi2 hJp hpre;clear hJp hpre hkp hsub;gi_wp2
   go_end0
   exact⟨⟨_,rfl⟩,.inl ⟨pre,by rw[HC.out.2,tL (by rw[H2.out.2.2.2.2.2];exact nR _)],HC.out.1⟩⟩
end
section
open Go.RowKit Go.Sg Go.Sg.Bits Go.Sg.Clk CP SF
abbrev yc0 (y:Cs)(rp:Int)(au0:List Rf)(rest:List Nat)(M:Nat)(K:Prop)(c0:Cont)(per:Nat)(sl:List Rf):Prop:=kT0 y rp au0 rest M K c0 (fun j=>some (ae0 (chunk sl per j)))
variable {y:Cs}{sl au0:List Rf}{rest:List Nat}{M m:Nat}{K:Prop}{c0:Cont}
theorem uB0 {rp:Int}{per:Nat}(h:yc0 y rp au0 rest M K c0 per sl)(ap:Apart y.taken y.fresh y.dying y.dead)(hper:0<per){i:Nat}{q:Rf}(hi:au0[i]?=some q)(hm:dE0 y q.1.toNat m)(hpg:y.pages<=2147483647)(hg:y.gen<9223372036854775808){L:List Nat}(hL:∀ n ∈ L,n/per=i)(r:Rf) :
  yc0 (y.put q.1.toNat m (ae0 (bQ0 (chunk sl per i) (L.map (· % per)) r))) rp (au0.set i ((m:Int),(y.gen:Int))) rest M K c0 per (bQ0 sl L r):=by
 have ht:=oo0 h ap hi hm hpg hg (ae0 (bQ0 (chunk sl per i) (L.map (· % per)) r));have e:(fun j=>if j=i then some (ae0 (bQ0 (chunk sl per i) (L.map (· % per)) r)) else some (ae0 (chunk sl per j)))=fun j=>some (ae0 (chunk (bQ0 sl L r) per j)):=by
  funext j
  by_cases hj:j=i
  ·subst hj;rw[if_pos rfl,qU0 hL hper]
  ·rw[if_neg hj,mo0 hL hj]
 rw[e] at ht;exact ht
theorem sU0 {y':Cs}{x:aL0}(h:yc0 y x.rp au0 rest M K c0 x.per sl)(ap:Apart y.taken y.fresh y.dying y.dead)(hz:kU0 y x)(hsl:sl.length=x.slots)(htl:au0.length=x.leaves)(hsr:∀ r ∈ sl,aF0 r)(hm:dE0 y x.rp.toNat m)(he:y'=y.put x.rp.toNat m (ae0 au0)) :
  fC0 y' { x with rp:=m,rs:=y.gen } au0 sl/\Live y' (pgs m au0++rest) M/\(K->bi0 y' (pgs m au0++rest))/\(∀ k ∈ rest,y'.cont k=c0 k)/\(Like y y'/\y'.gen=y.gen/\y'.dead=y.dead):=by
 subst he;obtain⟨ht,hc⟩:=oi0 h ap hm (ae0 au0);obtain⟨l1,l2,l3⟩:=dJ0 y x.rp.toNat m (ae0 au0);refine⟨⟨⟨hz.most,⟨hz.per.1,by rw[l1.room];exact hz.per.2⟩,fun d hd=>by rw[l1.room];exact hz.fits d hd,by rw[l1.room];exact hz.room⟩,hsl,htl,⟨hsr,ht.right,fun i r hi=>ht.cont i r _ hi rfl⟩,⟨by simp,by simp⟩,by simpa using hc⟩,ht.live,ht.calm,ht.keep,l1,l2,l3⟩
theorem nq0 {l:List Int}{r:Rf}:bQ0 sl ((cf0 l).map Int.toNat) r=bQ0 sl (l.map Int.toNat) r:=
 sW0 fun n=>by
  rw[ld9,ld9];constructor
  ·rintro⟨z,hz,e⟩;exact⟨z,(List.mergeSort_perm l _).mem_iff.1 hz,e⟩
  ·rintro⟨z,hz,e⟩;exact⟨z,(List.mergeSort_perm l _).mem_iff.2 hz,e⟩
end
section
open Go.RowKit Go.Sg Go.Sg.Bits Go.Sg.Clk Go.Shelf CP SF
variable {W W6 w w':World}{B:Blk}{y y0:Cs}{P:aC0}{a:Bool}{B0 D M N N1 b6 bd bdir bs k k7 m nt tc:Nat}{rest:List Nat}{K:Prop}{sv:Value}
theorem aw0.lt (h:aw0 w B y P a N)(r:cE0):B.at_ r<w.heap.size:=by
 obtain⟨x,c,hS,rfl,hi⟩:=h.ex;exact (hS.heaps r).2.2.1
theorem aw0.frK (h:aw0 w B y P a N)(F:Fr (fun b=>b=k) w w')(h1:∀ r,¬ B.at_ r=k)(h0:0<k)(hk:∀ cs t f,w.heap[k]?≠some (.cells cs t f)):aw0 w' B y P a N:=by
 obtain⟨⟨x,c,hS,hy,hi⟩,ht,hb⟩:=h;exact⟨⟨x,c,hS.frK F h1 (fun cs t=>hk cs t _),hy,{ hi with holds:=hi.holds.frK F hk }⟩,ht.fr F (fun e=>oM),hb⟩
theorem aP0.frK (h:aP0 w B y P N)(F:Fr (fun b=>b=k) w w')(hd:B.d≠k/\B.bf≠k/\B.bq≠k)(hk:∀ cs t f,w.heap[k]?≠some (.cells cs t f)):aP0 w' B y P N:=by
 obtain⟨D,h1,h2⟩:=h.ex;exact⟨D,h1.fr F hd.1 hd.2.1 hd.2.2 (fun g c t _ hg e=>by rw[e] at hg;exact hk _ _ _ hg),h2⟩
structure yd0 (w W:World)(B:Blk)(bd:Nat)(x:aL0)(y0:Cs)(P:aC0)(a:Bool)(N:Nat)(rest:List Nat)(M:Nat)(K:Prop)(c0:Cont)(slots:List Rf)(r:Rf)(ta:Option Addr)(nt tc k7 bs bdir:Nat)(sv:Value)(Ls:List Int)(k:Nat):Prop where
 b3:W.heap[w.heap.size]?=some (.cells #[cR0 bd] 83)
 b5:W.heap[w.heap.size+1]?=some (.cells #[.int .i64 r.1,.int .i64 r.2] 35)
 b6:W.heap[w.heap.size+2]?=some (.cells #[.int .i64 0] 24)
 b7:W.heap[k7]?=some (.cells #[.slice ta nt tc] 33)
 bs_:W.heap[bs]?=some (.cells #[sv] 52)
 bdir_:W.heap[bdir]?=some (.cells #[cR0 bd] 83)
 dir:aj0 W bd B.s x
 ex:∃ (y:Cs) (tk:List Rf),tk.length=nt/\aw0 W B y P a (N+k)/\yc0 y x.rp tk rest M K c0 x.per (bQ0 slots (Ls.map Int.toNat) r)/\W.ownsRow (w.heap.size+3) 35 2 (.slice ta nt tc) nt (tk.flatMap dB0)/\(Like y0 y/\y.gen=y0.gen/\y.dead=y0.dead)
 fr:FrB B w W
structure AM0 (w W:World)(B:Blk)(y0:Cs)(P:aC0)(a:Bool)(N k:Nat):Prop where
 b6:W.heap[w.heap.size+2]?=some (.cells #[.int .i64 4] 24)
 ex:aP0 W B y0 P (N+k)
 fr:FrB B w W
 arm:a=true
theorem rx0 {W':World}(h:FrB B w W)(F:Fr (fun b=>b=k) W W')(hk:w.heap.size<=k):FrB B w W':=
 Fr.trans h F fun b hb e=>by omega
variable {x:aL0}{c0:Cont}{sl slots tk:List Rf}{r:Rf}
theorem uA0 {ta:Option Addr}(hw:w.heap.size<=B0)(hlt:∀ r,B.at_ r<w.heap.size)(h0:0<w.heap.size) :
   OwnFrom B0 (fun (pre:List Grp) W=>yd0 w W B bd x y0 P a N rest M K c0 slots r ta nt tc k7 bs bdir sv (pre.flatMap (·.part)) (2*pre.length)):=
 in0 (fun pre W W' h F=>by
   obtain⟨y,tk,e1,e2,e3,e4,e5⟩:=h.ex;exact⟨F.heap h.b3 id,F.heap h.b5 id,F.heap h.b6 id,F.heap h.b7 id,F.heap h.bs_ id,F.heap h.bdir_ id,F.heap h.dir id,⟨y,tk,e1,e2.fr0 F,e3,oRf e4 F (fun _ _ _ h=>h),e5⟩,h.fr.trans (FrB.none F)⟩)
  (fun pre W W' k h F hk hc=>by
   have n1:∀ b cs t f,W.heap[b]?=some (.cells cs t f)->¬ b=k:=fun b cs t f hb e=>by rw[e] at hb;exact hc _ _ _ hb
   obtain⟨y,tk,e1,e2,e3,e4,e5⟩:=h.ex;exact⟨F.heap h.b3 (n1 _ _ _ _ h.b3),F.heap h.b5 (n1 _ _ _ _ h.b5),F.heap h.b6 (n1 _ _ _ _ h.b6),F.heap h.b7 (n1 _ _ _ _ h.b7),F.heap h.bs_ (n1 _ _ _ _ h.bs_),F.heap h.bdir_ (n1 _ _ _ _ h.bdir_),F.heap h.dir (n1 _ _ _ _ h.dir),
    ⟨y,tk,e1,e2.frK F (fun r e=>by have:=hlt r;omega) oM hc,e3,oRf e4 F (fun g c hg e=>n1 _ _ _ _ hg e),e5⟩,rx0 h.fr F oM⟩)
theorem vz0 (hw:w.heap.size<=B0)(hlt:∀ r,B.at_ r<w.heap.size) :
   OwnFrom B0 (fun (pre:List Grp) W=>AM0 w W B y0 P a N (2*pre.length)):=
 in0 (fun pre W W' h F=>⟨F.heap h.b6 id,h.ex.fr0 F,h.fr.trans (FrB.none F),h.arm⟩)
  (fun pre W W' k h F hk hc=>by
   have n1:∀ b cs t f,W.heap[b]?=some (.cells cs t f)->¬ b=k:=fun b cs t f hb e=>by rw[e] at hb;exact hc _ _ _ hb
   have l1:=hlt .d;have l2:=hlt .bf;have l3:=hlt .bq;simp only[Blk.at_] at l1 l2 l3;exact⟨F.heap h.b6 (n1 _ _ _ _ h.b6),h.ex.frK F ⟨oM,oM,oM⟩ hc,rx0 h.fr F oM,h.arm⟩)
theorem iY0 {n:Nat}{R:Ending->World->Prop}{tmps:Array Value}{DD br:Nat}{v:Int}(q:W.heap[br]?=some (.cells #[.int .i64 v] 24))
  (hK:W.heap[DD]?=some (.deferred (some []))) (hD:br<DD) (hR:R (.returned (.int .i64 v)) (W.putObj DD (.deferred none))) (t6:tmps.getD 6 undef = .pointer (some ⟨br,0,none⟩)) :
  bodyPostM Fence.wide n Tryz.prog Tryz.f50 R .ret { tmps:=tmps,defers:=[{ target:=.collected DD,args:=#[] }] } W:=by
 have e1:(W.putObj DD (.deferred none)).cell? ⟨br,0,none⟩=some (.int .i64 v):=by
  have:=coh ((hpj W DD (.deferred none) br oM).trans q) 0;simpa using this
 refine⟨by simp,.inl ⟨_,_,rfl,run_takeDeferred hK,_,?_,hR⟩⟩;rw[mk9] at t6;simp[results,Tryz.results50,go_sem,t6,e1]
theorem lR0 {g:Nat}{Ls:List Int}
  (hI:yd0 w W B bd x y0 P a N rest M K c0 slots r (some ⟨g,0,none⟩) nt tc k7 bs bdir sv Ls k) (htk:tk.length=nt) (hSt:aw0 W B y P a (N+k)) (hSet:yc0 y x.rp tk rest M K c0 x.per (bQ0 slots (Ls.map Int.toNat) r))
  (hown:W.ownsRow (w.heap.size+3) 35 2 (.slice (some ⟨g,0,none⟩) nt tc) nt (tk.flatMap dB0)) (hlike:Like y0 y/\y.gen=y0.gen/\y.dead=y0.dead) (hper:0<x.per) (hpg:y0.pages<=2147483647) {i:Nat} {q:Rf} (hi:tk[i]?=some q) (hm:dE0 y q.1.toNat m)
  {part:List Int} (hL:∀ z ∈ part,∃ k:Nat,z=k/\k/x.per=i) (F:FrB B W W6) (hS:aw0 W6 B (y.put q.1.toNat m (ae0 (bQ0 (chunk (bQ0 slots (Ls.map Int.toNat) r) x.per i) ((part.map Int.toNat).map (· % x.per)) r))) P a (N+k+2)) :
  yd0 w ((W6.setCell ⟨g,i*2,none⟩ (.int .i64 m)).setCell ⟨g,i*2+1,none⟩ (.int .i64 y.gen)) B bd x y0 P a N rest M K c0 slots r (some ⟨g,0,none⟩) nt tc k7 bs bdir sv (Ls++part) (k+2):=by
 subst htk;have hk:=(gI.1 hi).1;have hown6:dC0 W6 (w.heap.size+3) (.slice (some ⟨g,0,none⟩) tk.length tc) tk:=oRf hown F (fun g' c' hg' hs=>absurd (hs.2.1 c' 35 _ hg') dC);obtain⟨hg1,cg,hgc⟩:=oBT hown6 (g:=g) rfl;have hgen:y.gen<9223372036854775808:=bT0 hSt;obtain⟨l1,l2,l3⟩:=dJ0 y q.1.toNat m (ae0 (bQ0 (chunk (bQ0 slots (Ls.map Int.toNat) r) x.per i) ((part.map Int.toNat).map (· % x.per)) r));have hset:=mB0 hown6 hk (m:Int) (y.gen:Int);have hF2:Fr (fun b=>b=g) W6 ((W6.setCell ⟨g,i*2,none⟩ (.int .i64 m)).setCell ⟨g,i*2+1,none⟩ (.int .i64 y.gen)):=ia0 _ _;have kp:∀ (b:Nat) cs t,W.heap[b]?=some (.cells cs t)->t ∉ em0->(t≠35\/b<w.heap.size+3)->((W6.setCell ⟨g,i*2,none⟩ (.int .i64 m)).setCell ⟨g,i*2+1,none⟩ (.int .i64 y.gen)).heap[b]?=some (.cells cs t):=fun b cs t hb ht ho=>by
  have h6:=F.heap hb ht;refine hF2.heap h6 fun e=>?_
  subst e;rw[hgc] at h6;cases h6;rcases ho with h|h
  ·exact h rfl
  ·omega
 refine⟨kp _ _ _ hI.b3 dC (.inl dC),kp _ _ _ hI.b5 dC (.inr oM),kp _ _ _ hI.b6 dC (.inl dC),kp _ _ _ hI.b7 dC (.inl dC),kp _ _ _ hI.bs_ dC (.inl dC),kp _ _ _ hI.bdir_ dC (.inl dC),
  kp _ _ _ hI.dir dC (.inl dC),⟨_,tk.set i ((m:Int),(y.gen:Int)),by rw[lx9],sX0 hS hgc oM _ _,?_,?_,⟨hlike.1.trans l1,l2.trans hlike.2.1,l3.trans hlike.2.2⟩⟩,?_⟩
 ·have ht:=uB0 hSet hSt.apart hper hi hm (by rw[hlike.1.pages];exact hpg) hgen (L:=part.map Int.toNat) (fun n hn=>by
   obtain⟨z,hz,rfl⟩:=ld9.1 hn;obtain⟨k,rfl,hk⟩:=hL z hz;simpa using hk) r
  rw[lt9,iZ0];exact ht
 ·rw[lx9] at hset;exact hset
 ·have hgw:w.heap.size<=g:=by omega
  refine Fr.setCell ?_ (fun h=>absurd h (mS9.2 hgw)) _;refine Fr.setCell ?_ (fun h=>absurd h (mS9.2 hgw)) _;exact FrB.trans hI.fr F
theorem nH0 {W W6:World}{B:Blk}{bs bdir bd g i m n:Nat}{sv:Value}{dv:Value}{x:aL0}{s:Nat}{cg:Array Value}(F:FrB B W W6)(hgc:W6.heap[g]?=some (.cells cg 35))(hbs:W.heap[bs]?=some (.cells #[sv] 52))(hbdir:W.heap[bdir]?=some (.cells #[dv] 83))(hD:aj0 W bd s x)(u v:Value) :
  KpG bs bdir bd W ((W6.setCell ⟨g,m,none⟩ u).setCell ⟨g,n,none⟩ v):=by
 have hF2:Fr (fun b=>b=g) W6 ((W6.setCell ⟨g,m,none⟩ u).setCell ⟨g,n,none⟩ v):=ia0 _ _;have kp:∀ (b:Nat) cs t f,W.heap[b]?=some (.cells cs t f)->t ∉ em0->t≠35->((W6.setCell ⟨g,m,none⟩ u).setCell ⟨g,n,none⟩ v).heap[b]?=some (.cells cs t f):=fun b cs t f hb ht ho=>by
  have h6:=F.heap hb ht;refine hF2.heap h6 fun e=>?_
  subst e;rw[hgc] at h6;cases h6;exact ho rfl
 have h1:=kp _ _ _ _ hbs dC dC;have h2:=kp _ _ _ _ hbdir dC dC;have h3:=kp _ _ _ _ hD dC dC;exact⟨fun g' c f hg=>kp _ _ _ _ hg dC dC,h1.trans hbs.symm,h2.trans hbdir.symm,fun i=>by rw[coh h3,coh hD]⟩
theorem cN0 {s:Nat}{u v e:Value}(hF:FrB B w W6)(hD6:aj0 W6 bd s x)(hb6:W6.heap[b6]?=some (.cells #[.int .i64 0] 24))(hK:W6.heap[D]?=some (.deferred (some [])))(hb:w.heap.size<=b6)(hDw:w.heap.size<=D)(hbd:bd<w.heap.size) :
  (((W6.setCell ⟨bd,4,none⟩ u).setCell ⟨bd,5,none⟩ v).setCell ⟨b6,0,none⟩ e).heap[b6]?=some (.cells #[e] 24)/\(((W6.setCell ⟨bd,4,none⟩ u).setCell ⟨bd,5,none⟩ v).setCell ⟨b6,0,none⟩ e).heap[D]?=some (.deferred (some [])) /\
  FrX B (fun b=>b=bd) w ((((W6.setCell ⟨bd,4,none⟩ u).setCell ⟨bd,5,none⟩ v).setCell ⟨b6,0,none⟩ e).putObj D (.deferred none))/\Fr (fun b=>b=b6) ((W6.setCell ⟨bd,4,none⟩ u).setCell ⟨bd,5,none⟩ v) (((W6.setCell ⟨bd,4,none⟩ u).setCell ⟨bd,5,none⟩ v).setCell ⟨b6,0,none⟩ e) /\
  ((W6.setCell ⟨bd,4,none⟩ u).setCell ⟨bd,5,none⟩ v).heap[b6]?=some (.cells #[.int .i64 0] 24):=by
 have n6:¬ b6=bd:=oM
 have nD:¬ D=bd:=oM
 have n6D:¬ D=b6:=fun h=>by rw[h,hb6] at hK;cases hK
 have F1:=jO0 (W:=W6) (k:=bd) u v;have h6:=F1.heap hb6 n6;have hd:=F1.heap hK nD;have F2:Fr (fun b=>b=b6) ((W6.setCell ⟨bd,4,none⟩ u).setCell ⟨bd,5,none⟩ v) (((W6.setCell ⟨bd,4,none⟩ u).setCell ⟨bd,5,none⟩ v).setCell ⟨b6,0,none⟩ e):=Fr.setCell (S:=fun b=>b=b6) (Fr.refl _ _) (fun _=>rfl) _;refine⟨by rw[hsc _ _ _ _ h6];rfl,F2.heap hd n6D,?_,F2,h6⟩;refine Fr.putObj ?_ (fun h=>absurd h (mS9.2 hDw)) _;refine Fr.setCell ?_ (fun h=>absurd h (mS9.2 hb)) _;refine Fr.setCell ?_ (fun _=>.inr rfl) _;refine Fr.setCell ?_ (fun _=>.inr rfl) _;exact FrX.of hF
theorem sT0 {y' y'':Cs}(hF:FrB B w W6)(hD6:aj0 W6 bd B.s x)(hb6:W6.heap[b6]?=some (.cells #[.int .i64 0] 24))(hK:W6.heap[D]?=some (.deferred (some [])))(hb:w.heap.size<=b6)(hDw:w.heap.size<=D)(hbd:bd<w.heap.size)(h0:0<bd)(hlt:∀ r,B.at_ r<w.heap.size)
  (hS:aw0 W6 B y'' P a N1) (hN:N1<=N) (h9:N<=90000) (hg:y'.gen=y.gen) (hE:fC0 y'' { x with rp:=m,rs:=y'.gen } tk sl/\Live y'' (pgs m tk++rest) M/\(K->bi0 y'' (pgs m tk++rest))/\(∀ k ∈ rest,y''.cont k=c0 k)/\(Like y y''/\y''.gen=y.gen/\y''.dead=y.dead)) :
  yw0 B bd x y P a N rest M K c0 sl w (.returned (.int .i64 0)) ((((W6.setCell ⟨bd,4,none⟩ (.int .i64 m)).setCell ⟨bd,5,none⟩ (.int .i64 y'.gen)).setCell ⟨b6,0,none⟩ (.int .i64 0)).putObj D (.deferred none)):=by
 obtain⟨f1,f2,f3,f4,f5⟩:=cN0 (u:=.int .i64 m) (v:=.int .i64 y'.gen) (e:=.int .i64 0) hF hD6 hb6 hK hb hDw hbd;have FP:Fr (fun b=>b=D) (((W6.setCell ⟨bd,4,none⟩ (.int .i64 m)).setCell ⟨bd,5,none⟩ (.int .i64 y'.gen)).setCell ⟨b6,0,none⟩ (.int .i64 0)) ((((W6.setCell ⟨bd,4,none⟩ (.int .i64 m)).setCell ⟨bd,5,none⟩ (.int .i64 y'.gen)).setCell ⟨b6,0,none⟩ (.int .i64 0)).putObj D (.deferred none)):=(Fr.refl (fun b=>b=D) _).putObj (fun _=>rfl) _;rw[hg] at hE;rw[hg] at f1 f2 f3 f4 f5 FP ⊢;have hd:=mf0 hD6 (m:Int) (y.gen:Int);have s9:=gH0 hS hD6 h0 (.int .i64 m) (.int .i64 y.gen);have s10:=s9.frL f4 f5 dC oM;have s11:=s10.frK FP (fun r e=>by have:=hlt r;omega) oM (fun cs t f e=>by rw[f2] at e;cases e);have hd11:aj0 ((((W6.setCell ⟨bd,4,none⟩ (.int .i64 m)).setCell ⟨bd,5,none⟩ (.int .i64 y.gen)).setCell ⟨b6,0,none⟩ (.int .i64 0)).putObj D (.deferred none)) bd B.s { x with rp:=m,rs:=y.gen }:=
  FP.heap (f4.heap hd oM) oM
 exact⟨0,rfl,f3,.inl ⟨rfl,y'',tk,m,hd11,s11.mono hN h9,hE⟩⟩
theorem fG0 {p s:Int}(hF:FrB B w W6)(hD6:aj0 W6 bd B.s x)(hb6:W6.heap[b6]?=some (.cells #[.int .i64 0] 24))(hK:W6.heap[D]?=some (.deferred (some [])))(hb:w.heap.size<=b6)(hDw:w.heap.size<=D)(hbd:bd<w.heap.size)(hlt:∀ r,B.at_ r<w.heap.size)
  (hS:aP0 W6 B y P N1) (hN:N1<=N) (ha:a=true) :
  yw0 B bd x y P a N rest M K c0 sl w (.returned (.int .i64 4)) ((((W6.setCell ⟨bd,4,none⟩ (.int .i64 p)).setCell ⟨bd,5,none⟩ (.int .i64 s)).setCell ⟨b6,0,none⟩ (.int .i64 4)).putObj D (.deferred none)):=by
 obtain⟨f1,f2,f3,f4,f5⟩:=cN0 (u:=.int .i64 p) (v:=.int .i64 s) (e:=.int .i64 4) hF hD6 hb6 hK hb hDw hbd;have FP:Fr (fun b=>b=D) (((W6.setCell ⟨bd,4,none⟩ (.int .i64 p)).setCell ⟨bd,5,none⟩ (.int .i64 s)).setCell ⟨b6,0,none⟩ (.int .i64 4)) ((((W6.setCell ⟨bd,4,none⟩ (.int .i64 p)).setCell ⟨bd,5,none⟩ (.int .i64 s)).setCell ⟨b6,0,none⟩ (.int .i64 4)).putObj D (.deferred none)):=(Fr.refl (fun b=>b=D) _).putObj (fun _=>rfl) _;have l1:=hlt .d;have l2:=hlt .bf;have l3:=hlt .bq;simp only[Blk.at_] at l1 l2 l3;have s9:=eu0 hS hD6 (.int .i64 p) (.int .i64 s);have s10:=s9.frL f4 f5 dC;have s11:=s10.frK FP ⟨oM,oM,oM⟩ (fun cs t f e=>by rw[f2] at e;cases e);exact⟨4,rfl,f3,.inr ⟨rfl,ha,s11.mono hN⟩⟩
