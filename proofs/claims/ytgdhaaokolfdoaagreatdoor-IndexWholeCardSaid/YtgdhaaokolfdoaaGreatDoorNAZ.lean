/- A pack of texts. Conditions: those that each names. -/
import Derived.Test.YtgdhaaokolfdoaaGreatDoorNAY
set_option maxHeartbeats 16000000
set_option maxRecDepth 100000
set_option linter.all false
namespace Go.Proofs.YtgdhaaokolfdoaaGreatDoor
open Tryz
section
open Go.Proofs Go.RowKit Go.Sg Go.Shelf CP SF
attribute [local go_sem] Oper.semAt_some
abbrev Zd (x:Bt × Bt):Array Value:=#[E8 x.1,E8 x.2]
def eN (n0:Nat)(A C:w9):Prop:=A.heap.size<=C.heap.size/\∀ b,b<n0->C.heap[b]?=A.heap[b]?
def eN.refl (n0:Nat)(A:w9):eN n0 A A:=⟨nR _,fun _ _=>rfl⟩
variable {n0:Nat}{A C:w9}{v:Value}
def eN.trans {D:w9}(h:eN n0 A C)(k:eN n0 C D):eN n0 A D:=⟨nT h.1 k.1,fun b hb=>(k.2 b hb).trans (h.2 b hb)⟩
def eN.fr (F:Fq A C)(h:n0<=A):eN n0 A C:=⟨F.size,fun b hb=>F.block b oM id⟩
def eN.own {b e size n:Nat}{xs:List Value}(h:A.ownsRow b e size v n xs)(hn:∀ g,v.ownBlock=some g->g<n0)(K:eN n0 A C):C.ownsRow b e size v n xs:=by
 obtain⟨hl,h0|⟨g,cap,cur,hv,hb,hg,r⟩⟩:=h
 .exact⟨hl,.inl h0⟩
 .exact⟨hl,.inr ⟨g,cap,cur,hv,hb,(K.2 g (hn g (by rw[hv];rfl))).trans hg,r⟩⟩
def tJ0 (d p:Int)(va:Option Addr)(vn vc:Nat)(w:w9) :
  cP 242 #[E9 d p (sL va vn vc)] w fun e w'=>e = rT (.func (.func 273) #[] #[pO w])/\w.alloc (.cells #[iI d,iI p,sL va vn vc] 129)=w':=by
 go_enter func242,ntmps242;go_wp2_with fail
 go_ret;exact⟨rfl,rfl⟩
def YR (J Jx:List (Bt × Bt)->World->Prop)(Kp:World->World->Prop)(pre:List (Bt × Bt))(W1:w9)(b:Bool)(W':w9):Prop:=(b=true/\J pre W'/\Kp W1 W')\/(b=false/\Jx pre W')
def ou0 {w:w9}{bs:Nat}{d p:Int}{es:List Bt}(hs:w.heap[bs]?=some (.cells #[iI d,iI p,v] 129))(hE:Y3 w 0 v es)(hl:es.length<=255)(Le:m9 es) :
  XS Fence.wide 9 prog 273 #[pO bs] Zd (fun x _=>x.1.hash<x.2.hash) (eN w.heap.size) (fun _=>True) (fun _=>True) es.length w:=fun lp J Jx W hW hJ hJx hY h0=>by
 have FW:Fq w W:=Fr.of_below hW;obtain⟨va,vc,rfl,-,-,-,-⟩:=A2 hE;obtain⟨n,hn⟩:=eX es.length
 have U1:=M0 hs;have fO:=FW.heap hs id;have OY:=oN hE FW;have hEg:∀ g,(sL va es.length vc).ownBlock=some g->g<w.heap.size:=fun g hg=>(bK hE hg).2
 have HE:=hid fun C (K:eN w.heap.size W C)=>eN.own OY hEg K;have ZG:=hid fun C (K:eN w.heap.size W C)=>cells3 ((K.2 bs U1).trans fO);obtain⟨c0,c1,c2,cz,cl⟩:=ZG.o W (eN.refl _ _);have jT:=hid Le;have H0:=hid h0;have HN:=hid hn;have tT:=FW.size;have pP:n<=255:=oM
 rw[hn] at c2;clear hs hE fO OY hEg Le hW FW h0 hl;refine callsIn_of_wp func273 rfl trivial ?_ rfl;simp only[ntmps273,zA,lC,cJ,Nat.reduceAdd,Nat.reduceSub,dV,dW,dZ,dX,C7,ak];gi_wp2
 gi_loopw [8] (fun iv wr=>∃ (k:Nat) (pre:List (Bt × Bt)),k<=n/\iv = iI k/\J pre wr/\pre.length<=k-1/\eN w.heap.size W wr) fun iv _=>n-(intOf iv).toNat
 case atStart=>exact⟨0,[],C3 _,rfl,H0.o,nR _,eN.refl _ _⟩
 case round =>
  obtain⟨k,pre,hk,rfl,lh,X9,M4⟩:=hrel;by_cases hlt:k<n
  .have T6:decide (k<n)=true:=by simp[hlt]
   have US:decide ((k:Int)<(n:Int))=true:=by simp[hlt]
   have cF:(k:Int)<(n:Int):=oM
   obtain⟨x,hx⟩:∃ x,es[k]?=some x:=⟨_,gE (by rw[HN.o];exact hlt)⟩
   obtain⟨g,rfl,hg,u0,u1,u2,u3⟩:=pj (HE wr M4) hx;obtain⟨W1,M2⟩:=eX (wr.alloc (.cells #[iU x.hash,iI x.rg,iI x.at_,iI x.sz] 118))
   have F1:=fA M2
   have b4:=fB M2
   have px:J pre W1:=EU hJ lh F1;have IT:J pre W1.drew:=EU hJ px fR.drew;have io:w<=(wr:Nat):=nT tT M4.1;have Da:eN w.heap.size W W1:=M4.trans (eN.fr F1 io);obtain⟨t0,t1,t2,t3,tz,tl⟩:=D8 b4;have H1:=hi2 Da (aI IT X9);have Sc:=hid px;have HX:=hid hx;have R6:=hid M2;obtain⟨c0,c1,c2,cz,cl⟩:=ZG.o W1 Da;rw[HN] at c2;clear lh M4 Da px IT M2 F1 b4 hx;by_cases iX:k=0
   .have kA:decide (0<k)=false:=(by simp[iX]);have UL:decide ((0:Int)<(k:Int))=false:=(by simp[iX]);have Se:=hid iX;clear iX;gi_wp2
    rw[R6];gi_big_quiet_th (fail)
    gi_wp2
    go_roundw;case rel=>exact⟨k+1,pre,hlt,by go_num,EU hJ Sc (fR.drewN _),by have:=H1.2.2;omega,H1.1⟩
    case measure=>exact wM
   .obtain⟨j,hj⟩:∃ j,k=j+1:=⟨k-1,oM⟩
    obtain⟨y,Wo⟩:∃ y,es[j]?=some y:=⟨_,gE (by rw[HN.o];omega)⟩
    have DB:y.hash<x.hash:=Wu jT Wo HX oM;obtain⟨g',e',I1,v0,v1,v2,v3⟩:=pj (HE W1 H1.1) Wo;cases e';have kA:decide (0<k)=true:=sO;have UL:decide ((0:Int)<(k:Int))=true:=sO;have E3:wrap64 ((k:Int)-1)=(j:Int):=(by simp only[wrap64];omega);have fP:IntKind.i64.wrap ((k:Int)-1)=(j:Int):=(by rw[IntKind.wrap_i64];omega);have hjn:j<n:=oM;have Fk:(j:Int)<(n:Int):=oM;have gu:pre.length<es.length:=(by have:=H1.2.2;rw[HN];omega);have HJ:=hi2 hj (aI DB gu);obtain⟨fn,tmps,assign,body,hy,hR⟩:=hY pre (y,x) W1.drew H1.2.1 DB gu;dsimp only[Zd] at hy;have zB:=hR.mono (fun e W' h=>(show ∃ b,e = rT (bO b)/\YR J Jx (eN w.heap.size) (pre++[(y,x)]) W1.drew b W' from by
     rcases h with⟨rfl,h1,h2⟩|⟨rfl,h1⟩
     .exact⟨true,rfl,.inl ⟨rfl,h1,h2⟩⟩
     .exact⟨false,rfl,.inr ⟨rfl,h1⟩⟩))
    have HR:=hid zB;clear hR zB hj DB gu Wo iX;gi_wp2
    rw[R6];clear u0 u1 u2 u3;have hmo:prog.follows .mixedOrders=true:=kF;gi_region_with_o (refine HR.mono ?_;rintro e W3 ⟨bb,rfl,hYR⟩;have HY:=hid hYR;clear hYR)
    all_goals
     cases bb with
     | true =>
      have Jt:J (pre++[(y,x)]) W3/\eN w.heap.size W1.drew W3:=by
       rcases HY.o with⟨-,h1,h2⟩|⟨h1,-⟩
       .exact⟨h1,h2⟩
       .cases h1
      have wG:=hid Jt;clear Jt;gi_wp2
      go_roundw;case rel =>
       refine⟨k+1,pre++[(y,x)],hlt,by go_num,wG.1,?_,(H1.1.trans (eN.fr fR.drew (nT tT H1.1.1))).trans wG.2⟩;have:=H1.2.2;have:=HJ.1;rw[lA,DN];omega
      case measure=>exact wM
     | false =>
      have Jt:Jx (pre++[(y,x)]) W3:=by
       rcases HY.o with⟨h1,-⟩|⟨-,h1⟩
       .cases h1
       .exact h1
      have wG:=hid Jt;clear Jt;gi_wp2
      refine bodyPost_ret (results_none rfl _ _ _) rfl ?_;exact⟨⟨_,rfl⟩,.inr ⟨_,trivial,wG.o⟩⟩
  .obtain rfl:k=n:=by omega
   have T6:decide (k<k)=false:=by simp
   have US:decide ((k:Int)<(k:Int))=false:=by simp
   gi_wp2
   go_end0
   exact⟨⟨_,rfl⟩,.inl ⟨pre,trivial,lh⟩⟩
end
section
open Go.Proofs Go.RowKit Go.Sg Go.Shelf CP SF
attribute [local go_sem] Oper.semAt_some
def um0 {n:Nat}{R:Ending->World->Prop}{tmps:Array Value}{DD b:Nat}{W:w9}{bb:Bool}(q1:W.heap[b]?=some (.cells #[bO bb] 4))
  (hK:W.heap[DD]?=some (.deferred (some []))) (hD:b<DD) (hR:R (rT (bO bb)) (W.putObj DD (.deferred none))) (t4:tmps.getD 4 undef = pO b) :
  bodyPostM Fence.wide n prog Tryz.f190 R .ret { tmps:=tmps,defers:=[{ target:=.collected DD,args:=#[] }] } W:=by
 have e1:(W.putObj DD (.deferred none)).cell? b=some (bO bb):=by
  have:=G0 ((aC W DD (.deferred none) b oM).trans q1) 0;simpa using this
 refine⟨by simp,.inl ⟨_,_,rfl,run_takeDeferred hK,_,?_,hR⟩⟩;rw[Mk] at t4;simp[results,Tryz.results190,go_sem,t4,e1]
def WI {w:w9}{v:Value}{es:List Bt}(hE:Y3 w 0 v es)(Le:m9 es)(d p sl:Nat)(hd:d<=8)(hp:p<2^d)(h1:1<=sl)(h2:sl<=255)(hl:es.length<=sl)(hx:∀ x ∈ es,x.hash<18446744073709551616) :
  cP 190 #[E9 d p v,iI sl] w (bt (bO (!es.any (uV d p))) w):=by
 refine (callsIn_wide (n:=10)).1 ?_;obtain⟨va,vc,rfl,-,-,-,-⟩:=A2 hE;obtain⟨n,hn⟩:=eX es.length
 obtain⟨w1,I0⟩:=eX ((w.alloc (.cells #[iI d,iI p,sL va n vc] 129)).alloc (.cells #[bO false] 4))
 obtain⟨b2,b4,F1⟩:=n9 I0;have s1:w1.heap.size=w.heap.size+2:=by rw[<- I0];simp
 obtain⟨c0,c1,c2,cz,cl⟩:=cells3 b2;have R6:=hid I0;have Z5:=oN hE F1;have HE:=hid Z5;have av:decide (sl<1)=false:=by simp;omega
 have hd1':decide ((sl:Int)<1)=false:=by simp;omega
 have ic:decide (255<sl)=false:=by simp;omega
 have UN:decide ((255:Int)<(sl:Int))=false:=by simp;omega
 have ie:decide (sl<n)=false:=by simp;omega
 have kB:decide ((sl:Int)<(n:Int))=false:=by simp;omega
 have ti:decide ((p:Int)<0)=false:=by simp
 have yN:=hid (show cP 241 #[iI d,iI 8] w1 (Af true w1) by
  have:=NY d 8 w1;rw[show (decide (0<=(d:Int)) && decide ((d:Int)<=8))=true by simp;omega] at this;exact this)
 have VW:(p:Int)/2^d=0:=by
  have:p/2^d=0:=DK hp;have e:((p:Int)/2^d)=((p/2^d:Nat):Int):=by simp
  rw[e,this];rfl
 have HP:=hi2 Le (aI hx (aI hn (aI b2 (aI b4 (aI F1 s1)))));have pP:n<=255:=oM
 have hPr:=hid fun V=>tJ0 d p va n vc V;rw[hn];clear hE Le hx hn hl I0 b2 b4 F1 s1 Z5 hp;refine callsIn_of_wp_marks func190 rfl trivial ?_ rfl;simp only[ntmps190,zA,lC,cJ,Nat.reduceAdd,Nat.reduceSub,dV,dW,dZ,dX,C7,ak];gi_wp2_with (fail)
 rw[R6];gi_wp2_with (fail)
 refine (callsIn_wide.2 yN.o).mono ?_;rintro e _ ⟨rfl,rfl⟩;gi_wp2_with (fail)
 refine (callsIn_wide.2 (hPr.o _)).mono ?_;rintro e _ ⟨rfl,rfl⟩;gi_wp2_with (fail)
 obtain⟨W0,B4⟩:=eX (w1.alloc (.cells #[iI d,iI p,sL va n vc] 129))
 have F0:=fA B4
 have bI:=fB B4
 have eD:W0.heap.size=w1.heap.size+1:=by rw[<- B4];simp
 rw[B4];have Wi:w.heap.size+2<=W0.heap.size:=by rw[eD,HP.2.2.2.2.2.2];omega
 have g2:=F0.heap HP.2.2.2.1 id;have g4:=F0.heap HP.2.2.2.2.1 id;have IM:Y3 W0 0 (sL va n vc) es:=by
  have:=oN HE F0;rw[HP.2.2.1] at this;show W0.ownsRow 0 118 4 (sL va n vc) es.length _;rw[HP.2.2.1];exact this
 clear c0 c1 c2 cz cl;refine dE0 (F:=Fence.wide) rfl oM (gf:=273) (lb:=#[pO w1]) rfl trivial (enters_of func273 kF rfl)
  (fun pre W=>(W.heap[w.heap.size]?=some (.cells #[iI d,iI p,sL va n vc] 129)/\W.heap[w.heap.size+1]?=some (.cells #[bO false] 4))/\Fq W0 W)
  (ou0 (w:=W0) bI IM (by rw[HP.2.2.1];exact pP) HP.1)
  (fun h k=>h.trans k) (fun W l o o' hl _ _ _=>⟨by rw[iD0];exact nR _,fun b hb=>aC _ _ _ _ oM⟩) (Below.refl _ _) (fun _=>rfl)
  (fun _ _ _=>False)
  (U6 (U6 (gU _ _ _ fun _=>.inl rfl) (gU _ _ _ fun _=>.inl rfl)) (oY (nR _))) (fun _ _ _ _ _ h _ _=>h.elim) ⟨⟨g2,g4⟩,fR⟩
  (fun z a' W=>∃ Bx By:Nat,((W.heap[Bx]?=some (.cells #[iU z.1.hash,iI z.1.rg,iI z.1.at_,iI z.1.sz] 118)/\W.heap[By]?=some (.cells #[iU z.2.hash,iI z.2.rg,iI z.2.at_,iI z.2.sz] 118))/\z.1.hash<z.2.hash)/\a'={ tmps:=#[E9 (d:Int) (p:Int) (sL va n vc),iI sl,pO w,undef,pO (aP (w+1) 0),pO Bx,pO By,iI sl,bO false,bO false,iI sl,bO false,bO false,bO false,pO (aP w 2),sL va n vc,iI n,iI sl,bO false,bO false,bO false,pO w,iI d,bO true,bO false,bO false,bO false,pO (aP w 1),iI p,bO false,bO false,bO false,pO (aP w 1),iI p,pO w,iI d,iI 0,bO false,bO false,.agg #[iI d,iI p,sL va n vc],.func (Fn.func 273) #[] #[pO w1],E8 z.1,E8 z.2,undef,undef,undef,undef,undef,undef,undef,undef,undef,undef],defers:=[] })
  (fun z a'=>sj fun Bx=>sj fun By=>U6 (U6 (U6 (gU _ _ _ fun _=>.inl rfl) (gU _ _ _ fun _=>.inl rfl)) (eR _ _)) (eR _ _))
  ?assign ?body ?done ?stop
 case assign =>
  rintro lp pre ⟨z1,z2⟩ W K' hI hT hK;have FN:Fq W ((W.alloc (.cells #[iU z1.hash,iI z1.rg,iI z1.at_,iI z1.sz] 118)).alloc (.cells #[iU z2.hash,iI z2.rg,iI z2.at_,iI z2.sz] 118)):=(fR.alloc _).alloc _;have kG:W0<=(W:Nat):=hI.2.size;have HI:=hi2 hI hT;have HK:=hid hK;have HFN:=hid FN;clear hI hT hK bI IM g2 g4 FN;gi_wp2
  obtain⟨⟨⟨h1,h2⟩,hF⟩,hT⟩:=HI.o;have FN:=HFN.o;refine HK _ _ (((KeepsOthers.alloc _ _).trans (KeepsOthers.alloc _ _)).from _) ⟨FN.size,fun b hb=>FN.block b oM id⟩ ⟨⟨FN.heap h1 id,FN.heap h2 id⟩,hF.trans FN nI⟩ ⟨W.heap.size,W.heap.size+1,⟨⟨(fE _ _ _ sP).trans (han _ _),by have:=han (W.alloc (.cells #[iU z1.hash,iI z1.rg,iI z1.at_,iI z1.sz] 118)) (.cells #[iU z2.hash,iI z2.rg,iI z2.at_,iI z2.sz] 118);simpa using this⟩,hT⟩,rfl⟩
 case body =>
  rintro lp pre ⟨z1,z2⟩ a' W hl ⟨rr,ff⟩ hI ⟨Bx,By,⟨⟨E5,L4⟩,hlt⟩,rfl⟩ hlen;simp only at E5 L4 hlt;obtain⟨t0,t1,t2,t3,tz,tl⟩:=D8 E5;obtain⟨u0,u1,u2,u3,uz,ul⟩:=D8 L4;have cE:decide (z2.hash<=z1.hash)=false:=by simp;omega
  have hge':decide ((z2.hash:Int)<=(z1.hash:Int))=false:=by simp;omega
  have HI:=hid hI;clear hI E5 L4 hlt bI IM g2 g4 ff;gi_wp2
  exact⟨KeepsFrom.refl _ _,eN.refl _ _,HI.o⟩
 case done =>
  rintro D xs W hD hS ⟨⟨h1,h2⟩,hF⟩ hK;obtain⟨c0,c1,c2,cz,cl⟩:=cells3 h1;have AP:=hid (lP0 (oN IM hF) (by rw[HP.2.2.1];exact pP) ⟨w,0,none⟩ (uV d p) fun x hx W' FW=>uE0 (FW.heap h1 id) oM x (HP.2.1 x hx));have HD:=hi2 h1 (aI h2 (aI hF hK));clear h1 h2 hF hK hS bI IM g2 g4;gi_wp2_with (fail)
  refine (callsIn_wide.2 AP.o).mono ?_;rintro e W2 ⟨rfl,F2⟩;obtain⟨h1,h2,hF,hK⟩:=HD.o;have eU:=F2.heap h2 id;have d0:=G0 eU 0;have dz:=X2 eU 0;have sB:=F2.heap hK id;simp at d0;have dl:=M0 eU;have uE:=hi2 eU (aI F2 sB);clear h1 h2 hF hK F2 eU sB c0 c1 c2 cz cl;gi_wp2_with (fail)
  obtain⟨eU,F2,sB⟩:=uE.o;have lg:Fq w W2:=((HP.2.2.2.2.2.1.trans F0 nI).trans HD.2.2.1 nI).trans F2 nI;refine um0 (bb:=!es.any (uV d p)) (b:=w.heap.size+1) (by rw[hsc _ _ _ _ eU];rfl) ((fY _ _ _ _ (by show w.heap.size+1≠D;omega)).trans sB) oM ⟨rfl,?_⟩ rfl;exact ((lg.U2 oM _)).putObj (fun hh=>oM) _
 case stop=>exact fun _ _ _ _ _ _ h=>h.elim
end
section
open Go.RowKit Go.Sg Go.Sg.Bits Go.Sg.r4 CP SF
abbrev mw (r:Rf)(d p:Int)(v:Value):Value:=.agg #[iI r.1,iI r.2,iI d,iI p,v]
def YL (B:P0)(bx bd:Nat)(y:Cs)(P:J2)(a:Bool)(N:Nat)(x:P1)(E0 slots:List Rf)(L:List Bp)(sp:Int)(r:Rf)(d p:Nat)(es:List Bt)(w:w9)(e:Ending)(w':w9):Prop:=
 ∃ (r1:Rf) (d1 p1:Int) (va:Option Addr) (n vc:Nat) (err:Int),e = rT (tU #[mw r1 d1 p1 (sL va n vc),iI err])/\D0 B w w' /\
  ((err=0/\(r1=r/\d1=d/\p1=p/\n=es.length)/\Y3 w' w.heap.size (sL va es.length vc) es/\Y1 w' B bx bd y P a N x E0 slots L sp)\/(err=4/\a=true/\C5 w' B y P N))
variable {N bd bx d p:Nat}{es:List Bt}{w:w9}{v:Value}{a:Bool}{sp:Int}
def oo0 (h:S8 d p es):es.any (uV d p)=false:=by
 rw[DJ];intro x hx;obtain⟨⟨g0,g1,g2,g3⟩,hp⟩:=h.2.2 x hx;simp only[uV,ab,hp];simp;omega
def OL (hE:Y3 w 0 v es)(h:S8 d p es)(hd:d<=8)(hp:p<2^d):cP 190 #[E9 d p v,iI 3] w (bt (bO true) w):=by
 have:=WI hE h.2.1 d p 3 hd hp dC dC h.1 fun x hx=>(h.2.2 x hx).1.1;rw[oo0 h] at this;exact this
def Gi (W:w9)(b:Nat)(u0 u1 u2 u3 u4:Value):World:=((((W.setCell b u0).setCell (aA b 1) u1).setCell (aA b 2) u2).setCell (aA b 3) u3).setCell (aA b 4) u4
def aM (W:w9)(b:Nat)(u0 u1 u2 u3 u4:Value):Fr (fun k=>k=b) W (Gi W b u0 u1 u2 u3 u4):=
 (((((Fr.refl (fun k=>k=b) W).setCell (a:=⟨b,_,none⟩) (fun _=>rfl) _).setCell (a:=⟨b,_,none⟩) (fun _=>rfl) _).setCell (a:=⟨b,_,none⟩) (fun _=>rfl) _).setCell (a:=⟨b,_,none⟩) (fun _=>rfl) _).setCell (a:=⟨b,_,none⟩) (fun _=>rfl) _
variable {B:P0}{y:Cs}{P:J2}{x:P1}{slots E0:List Rf}{L:List Bp}
def Y1.U2 {W:w9}{b:Nat}{c:Array Value}{t:TypeId}(h:Y1 w B bx bd y P a N x E0 slots L sp)(F:Fr (fun k=>k=b) w W)(hb:w.heap[b]?=some (.cells c t))(ht:t ∉ 5 :: 227 :: 209 :: aR)(h0:0<b):Y1 W B bx bd y P a N x E0 slots L sp:=
 { h with
  st:=h.st.M3 F hb (fun hm=>ht (by simp only[d9] at hm ⊢;rcases hm with hm|hm <;> simp[hm])) h0
  idx:=F.heap h.idx (fun e=>by have h1:=h.idx;unfold dG at h1;rw[e,hb] at h1;cases h1;exact ht sP)
  dir:=F.heap h.dir (fun e=>by have h1:=h.dir;unfold N2 at h1;rw[e,hb] at h1;cases h1;exact ht sP) }
variable {r:Rf}
def Iq (h:Y1 w B bx bd y P a N x E0 slots L sp)(hq:(r,Z6 d p es) ∈ L)(hk:S8 d p es)(hd:d<=8)(hp:p<2^d)(hN:N+1<=90000) :
  cP 192 #[O7 bx,cV r.1 r.2] w (YL B bx bd y P a (N+1) x E0 slots L sp r d p es w):=by
 obtain⟨w1,I0⟩:=eX ((w.alloc (.cells #[iI r.1,iI r.2] 35)).alloc (.cells #[iI 0,iI 0,iI 0,iI 0,sL none 0 0] 131))
 obtain⟨b3,b4,F1⟩:=n9 I0;have E3:w1.heap.size=w.heap.size+2:=by rw[<- I0];simp
 have ff:=h.bk _ hq;have rO:=hid fun W (F:Fq w1 W)=>QE ((h.st.J0 F1).J0 F) r.1 r.2 ff.1.1 ff.1.2.2.1 ff.2 hN;have HB:=hid fun W (F:D0 B w1 W)=>aI (cells2 (D0.heap F b3 dC)) (aI (cells5 (wO (F1.heap h.idx id:dG w1 bx B.s bd 3 3 sp) F)) (cells5 (D0.heap F b4 dC)));have T5:=hid fun W (F:D0 B w1 W)=>D0.heap F b4 dC;have pQ:p<1048576:=E4 hp (nT (aZ dC hd) dC);obtain⟨⟨c0,c1,cz,cl⟩,⟨i0,i1,i2,i3,i4,iz,il⟩,-⟩:=HB.o _ (D0.refl _ _);have H1:=hi2 h (aI F1 E3);have HK:=hid hk;have HW:=hid I0;have FG:Fq w1 w1.drew:=fR.drew;clear h I0 b3 b4 F1 E3 ff hq hk;go_enter func192,ntmps192;go_upto_region 1 with fail
 rw[HW];refine wp_region_noPanic ?_;refine q8 (fun V=>D0 B w1 V) (.rd 0 (.rd 1 (.rd 2 (.rd 3 (.rd 4 (.op 5 (.rd 6 (.rd 7 (.rd 8 (.rd 9 (.rd 10 .done))))))))))) kF kF kF (fun _ _ _ _ _ h=>h) (D0.none FG) ?_;iterate 5
  refine oP ?_ ?_ ?_;rotate_left
  .intro V hV;obtain⟨⟨c0,c1,cz,cl⟩,⟨i0,i1,i2,i3,i4,iz,il⟩,-⟩:=HB.o V hV;go_simp;try with_reducible rfl
 refine rQ fun K hK=>?_;refine (rO _ FG).mono ?_;rintro _ V2 ⟨la,ll,lc,err,rfl,F2,hr⟩;have qv:D0 B w1 V2:=D0.trans (D0.none FG) F2;have H2:=hi2 qv hr;try go_simp
 refine hK _ _ qv ?_;clear hK K F2 hr qv;iterate 5
  refine oR ?_
 try simp only[Act.put,sI,sZ,sS]
 refine o5 ?_;refine NoPanic.normal ?_;clear FG;rcases H2.2 with⟨rfl,rfl,hb,hS⟩|⟨rfl,ha,U0⟩
 .have N8:=tK0 d p es;rw[N8] at hb ⊢;have HUn:=hid (uK0 (sl:=3) hb rfl (by have:=HK.1;omega) (fun z hz=>(HK.2.2 z hz).1) oM pQ fun W v hE=>OL hE HK hd hp);have HS:=hi2 hS H2.1;clear hb hS N8 c0 c1 cz cl i0 i1 i2 i3 i4 iz il;obtain⟨⟨c0,c1,cz,cl⟩,⟨i0,i1,i2,i3,i4,iz,il⟩,⟨o0,o1,o2,o3,o4,oz,ol⟩⟩:=HB.o V2 HS.2;go_wp2_with fail
  refine HUn.mono ?_;rintro e W3 ⟨va,vc,rfl,A0,F3⟩;obtain⟨n,hn⟩:=eX es.length
  have HN:=hid hn;rw[hn];have H3:=hi2 A0 F3;have Fw:w.heap.size+2<=W3.heap.size:=by have:=HS.2.size;have:=F3.size;have:=H1.2.2;omega
  clear c0 c1 cz cl i0 i1 i2 i3 i4 iz il o0 o1 o2 o3 o4 oz ol;obtain⟨⟨c0,c1,cz,cl⟩,-,⟨o0,o1,o2,o3,o4,oz,ol⟩⟩:=HB.o W3 (D0.trans HS.2 (D0.none F3));clear A0 F3 hn;go_wp2_with fail
  refine bodyPost_ret (v:=tU #[mw r d p (sL va n vc),iI 0]) sR rfl ⟨r,d,p,va,n,vc,0,rfl,?_,.inl ⟨rfl,⟨rfl,rfl,rfl,HN.symm⟩,?_,?_⟩⟩
  .exact (D0.trans (D0.none H1.2.1) (D0.trans HS.2 (D0.none H3.2))).trans' ((aM W3 (w.heap.size+1) _ _ _ _ _).alloc _) fun b hb e=>oM
  .have xM:w.heap.size+2<=V2.heap.size:=by have:=HS.2.size;have:=H1.2.2;omega
   exact oN (bi (ao H3.1 oM) (aM W3 (w.heap.size+1) _ _ _ _ _) (fun g hg e=>by
    have:=(bK H3.1 hg).1;omega)) (fR.alloc _)
  .have h3:=((H1.1.J0 H1.2.1).T1 HS.2 HS.1).J0 H3.2;exact (h3.U2 (aM W3 (w.heap.size+1) _ _ _ _ _) (T5 W3 (D0.trans HS.2 (D0.none H3.2))) dC oM).J0 (fR.alloc _)
 .have HX:=hi2 ha (aI U0 H2.1);clear U0 ha;have Fw:w.heap.size+2<=V2.heap.size:=by have:=H2.1.size;have:=H1.2.2;omega
  clear c0 c1 cz cl i0 i1 i2 i3 i4 iz il;obtain⟨-,-,⟨o0,o1,o2,o3,o4,oz,ol⟩⟩:=HB.o V2 H2.1;go_wp2_with fail
  refine bodyPost_ret (v:=tU #[mw (0,0) 0 0 (sL none 0 0),iI 4]) sR rfl ⟨(0,0),0,0,none,0,0,4,rfl,?_,.inr ⟨rfl,HX.1,?_⟩⟩
  .exact (D0.trans (D0.none H1.2.1) HX.2.2).trans' (aM V2 (w.heap.size+1) _ _ _ _ _) fun b hb e=>oM
  .exact HX.2.1.M3 (aM V2 (w.heap.size+1) _ _ _ _ _) (T5 V2 HX.2.2) dC
def CY0 (B:P0)(bx bd:Nat)(y:Cs)(P:J2)(a:Bool)(N:Nat)(depth:Nat)(slots:List Rf)(S:List Nat)(L:List Bp)(j:Nat)(ld:List Int)(sp:Int)(w:w9)(e:Ending)(w':w9):Prop:=
 ∃ err,e = rT (iI err)/\O0 B (fun b=>b=bd) w w'/\((err=0/\∃ (m:Nat) (y':Cs) (x':P1) (Y7:List Rf),Y1 w' B bx bd y' P a N x' Y7 (R4 slots S ((m:Int),(y.gen:Int))) (L.set j (((m:Int),(y.gen:Int)),ld)) sp/\x'.depth=depth/\(Like y y'/\y'.gen=y.gen/\y'.dead=y.dead))\/(err=4/\a=true/\C5 w' B y P N))
def DY (B:P0)(bx bd:Nat)(y:Cs)(P:J2)(a:Bool)(N:Nat)(x:P1)(E0 slots:List Rf)(L:List Bp)(sp:Int)(j:Nat)(ld:List Int)(p3 s3 err:Int)(V:w9):Prop:=
 (err=0/\∃ m:Nat,p3=(m:Int)/\s3=(y.gen:Int)/\∃ y',Y1 V B bx bd y' P a N x E0 slots (L.set j (((m:Int),(y.gen:Int)),ld)) sp/\(Like y y'/\y'.gen=y.gen/\y'.dead=y.dead))\/(err=4/\a=true/\C5 V B y P N)
def Qw (p s q t:Int)(w:w9):(binOp .eql 35 (cV p s) (cV q t)).run prog w = .ok (bO (decide (p=q) && decide (s=t))) w:=by
 have h:prog.underlying 35=_:=underlying35;go_simp;by_cases h1:p=q <;> by_cases h2:s=t <;> simp[h1,h2]
section
variable {B:P0}{bx bd:Nat}{y:Cs}{P:D4}{a:Bool}{N:Nat}{x:P1}{E0 slots:List Rf}{L:List Bp}{sp:Int}{j:Nat}{ld:List Int}{p3 s3 err:Int}{V V':w9}
def to0 {r:Rf}{xV:List Int}(h:Y1 V B bx bd y P a N x E0 slots L sp)(hj:L[j]?=some (r,xV))(F:D0 B V V')
  (hr:(err=0/\(∃ m:Nat,p3=m/\s3=y.gen/\(y.fresh r.1.toNat=true/\m=r.1.toNat\/y.fresh r.1.toNat=false/\dF y.taken y.pages y.hand m)/\C1 V' B (y.put r.1.toNat m ld) P a (N+1)))\/(err=4/\a=true/\C5 V' B y P (N+1))):DY B bx bd y P a (N+1) x E0 slots L sp j ld p3 s3 err V':=by
 rcases hr with⟨rfl,m,rfl,rfl,hm,hS⟩|hr
 .exact .inl ⟨rfl,m,rfl,rfl,_,h.rF0 hj hm F hS,EP y r.1.toNat m ld⟩
 .exact .inr hr
def DY.J0 (h:DY B bx bd y P a N x E0 slots L sp j ld p3 s3 err V)(F:Fq V V'):DY B bx bd y P a N x E0 slots L sp j ld p3 s3 err V':=by
 rcases h with⟨rfl,m,h1,h2,y',h3,h4⟩|⟨rfl,ha,hD⟩
 .exact .inl ⟨rfl,m,h1,h2,y',h3.J0 F,h4⟩
 .exact .inr ⟨rfl,ha,hD.J0 F⟩
def DY.set (h:DY B bx bd y P a N x E0 slots L sp j ld p3 s3 err V){b:Nat}{c:Array Value}(F:Fr (fun k=>k=b) V V')(hb:V.heap[b]?=some (.cells c 35))(h0:0<b):DY B bx bd y P a N x E0 slots L sp j ld p3 s3 err V':=by
 rcases h with⟨rfl,m,h1,h2,y',h3,h4⟩|⟨rfl,ha,hD⟩
 .exact .inl ⟨rfl,m,h1,h2,y',h3.U2 F hb dC h0,h4⟩
 .exact .inr ⟨rfl,ha,hD.M3 F hb dC⟩
end
def EN {P:D4}(h:Y1 w B bx bd y P a N x E0 slots L sp){j:Nat}{xV:List Int}(hj:L[j]?=some (r,xV))(hE:Y3 w 0 v es)(hk:S8 d p es)(hd:d<=x.depth)(hp:p<2^d)
  (X3:∀ i ∈ fS (p*2^(x.depth-d)) (2^(x.depth-d)),slots[i]?=some r) (hN:N+20<=90000) :
  cP 137 #[O7 bx,mw r d p v] w (CY0 B bx bd y P a (N+20) x.depth slots (fS (p*2^(x.depth-d)) (2^(x.depth-d))) L j (Z6 d p es) sp w):=by
 obtain⟨va,vc,rfl,-,-,-,-⟩:=A2 hE;obtain⟨n,hn⟩:=eX es.length
 have bU:=h.small.2.2;have pQ:p<1048576:=E4 hp (nT (aZ dC (by omega:d<=20)) dC);obtain⟨w1,I0⟩:=eX (w.alloc (.cells #[iI r.1,iI r.2,iI d,iI p,sL va n vc] 131))
 have b3:=fB I0
 have F1:=fA I0
 have HB:=hid fun (V:w9) (F:D0 B w1 V)=>aI (cells5 (D0.heap F b3 dC)) (cells5 (wO (F1.heap h.idx id:dG w1 bx B.s bd 3 3 sp) F));have rN:=hid (fun V (F:Fq w1 V)=>PP (oN (oN hE F1) F) (by have:=hk.1;omega) (fun z hz=>(hk.2.2 z hz).1) d p 3 oM pQ hk.1 dC fun W FW=>OL (oN (oN (oN hE F1) F) FW) hk oM hp);have X4:=gM (h.page hj);have Z3:=h.lv.tk _ X4;have ff:=(h.bk _ (gM hj)).1;have PH:r.1=(r.1.toNat:Int):=by have:=ff.1;simp only at this;omega
 have wF:=hid (fun V la lc (F:Fq w1 V) (hb:T0 V la (10+20*es.length) lc (Z6 d p es))=>by
  have:=LU ((h.st.J0 F1).J0 F) r.1.toNat r.2 (hb.inp B) (Id d p es) (by rw[h.room];have:=hk.1;omega) (h.lv.lt _ X4) Z3.1 Z3.2.2 h.free oM;rw[<- PH] at this;exact this)
 have HN:=hid hn;have H1:=hi2 h (aI F1 (aI hj (aI X3 ff)));have Nc:=hi2 hd hp;have FG:Fq w1 w1.drew:=fR.drew;have HW:=hid I0;rw[hn] at rN wF ⊢;clear h hj hE hk X3 I0 b3 F1 X4 Z3 ff PH hn hd hp;go_enter func137,ntmps137;go_upto_region 1 with fail
 rw[HW];refine wp_region_noPanic ?_;refine q8 (fun V=>D0 B w1 V) (.rd 0 (.rd 1 (.rd 2 (.rd 3 (.rd 4 (.rd 5 (.op 6 (.rd 7 (.rd 8 (.rd 9 (.rd 10 (.rd 11 .done)))))))))))) kF kF kF (fun _ _ _ _ _ h=>h) (D0.none FG) ?_;iterate 6
  refine oP ?_ ?_ ?_;rotate_left
  .intro V hV;obtain⟨⟨o0,o1,o2,o3,o4,oz,ol⟩,⟨i0,i1,i2,i3,i4,iz,il⟩⟩:=HB.o V hV;go_simp;try with_reducible rfl
 refine rQ fun K hK=>?_;refine (rN _ FG).mono ?_;rintro _ V2 ⟨la,lc,rfl,hb,F2⟩;have qv:=FG.trans F2 nI;rw[HN] at hb ⊢;have H2:=hi2 hb qv;try go_simp
 refine hK _ _ (D0.none qv) ?_;clear hK K hb F2 qv;iterate 5
  refine oR ?_
 try simp only[Act.put,sI,sZ,sS]
 refine o5 ?_;refine NoPanic.normal ?_;have bD:=hid fun (V:w9) (F:D0 B V2 V)=>HB V (D0.trans (D0.none H2.2) F);have FD:Fq V2 V2.drew:=fR.drew;clear FG;go_wp2_with fail
 refine wp_region_noPanic ?_;refine q8 (fun V=>D0 B V2 V) (.rd 0 (.rd 1 (.rd 2 (.rd 3 (.rd 4 (.rd 5 (.rd 6 (.two 7 11 (.rd 8 (.rd 9 (.rd 10 (.op 11 (.op 12 (.rd 13 .done)))))) (.op 7 (.rd 8 (.rd 9 (.rd 10 (.op 12 (.rd 13 .done)))))))))))))) kF kF kF (fun _ _ _ _ _ h=>h) (D0.none FD) ?_;iterate 7
  refine oP ?_ ?_ ?_;rotate_left
  .intro V hV;obtain⟨⟨o0,o1,o2,o3,o4,oz,ol⟩,⟨i0,i1,i2,i3,i4,iz,il⟩⟩:=bD.o V hV;go_simp;try with_reducible rfl
 try simp only[Act.put,sI,sZ,sS]
 refine mu ?_ ?_
 .refine fF _ gF rF fun K hK=>?_;go_simp;refine (wF _ la lc (H2.2.trans FD nI) (H2.1.fr FD fun _ _ _ h=>h)).mono ?_;rintro _ V3 ⟨p3,s3,err,rfl,F3,hr⟩;have cL:D0 B V2 V3:=D0.trans (D0.none FD) F3;have H3:=hi2 cL hr;try go_simp
  refine hK _ _ cL ?_;clear hK K F3 hr cL;iterate 3
   refine oR ?_
  refine rQ fun K hK=>?_;refine hK _ _ (H3.1.alloc _) ?_;clear hK K;refine rQ fun K hK=>?_;obtain⟨b7,E6⟩:=eX V3.heap.size
  obtain⟨V5,M5⟩:=eX (V3.alloc (.cells #[iI p3,iI s3] 35))
  have F5:=fA M5
  have g7:V5.heap[b7]?=some (.cells #[iI p3,iI s3] 35):=by rw[<- M5,<- E6];exact han V3 _
  have cM:=D0.trans H3.1 (D0.none F5);have H5:=hi2 g7 (aI cM ((to0 (H1.1.J0 (H1.2.1.trans H2.2 nI)) H1.2.2.1 H3.1 H3.2).J0 F5));rw[E6,M5];refine hK _ _ cM ?_;clear hK K M5 F5 g7 cM;refine oR ?_
  try simp only[Act.put,sI,sZ,sS]
  refine o5 ?_;refine NoPanic.normal ?_;have HEq:=hid fun W=>Qw p3 s3 r.1 r.2 W;obtain⟨bq,ku⟩:=eX ((decide (p3=r.1) && decide (s3=r.2)))
  rw[ku] at HEq;have tq:=HEq.o;have RG:=hid ku;obtain⟨y0,y1,yz,yl⟩:=cells2 H5.1;obtain⟨⟨o0,o1,o2,o3,o4,oz,ol⟩,⟨i0,i1,i2,i3,i4,iz,il⟩⟩:=bD.o V5 H5.2.1;clear ku FD;rcases H5.2.2 with⟨rfl,m,rfl,rfl,y',hI,hL⟩|⟨rfl,ha,U0⟩
  .have HI:=hi2 hI hL;clear hI hL;cases bq with
   | true =>
    go_wp2_with fail
    go_ret;have Vx:((m:Int),(y.gen:Int))=r:=by
     have:=RG.o;simp at this;exact Prod.ext this.1 this.2
    refine⟨0,rfl,O0.of (D0.trans (D0.none (H1.2.1.trans H2.2 nI)) H5.2.1),.inl ⟨rfl,m,y',x,E0,?_,rfl,HI.2⟩⟩;rw[mU0 (by rw[Vx];exact H1.2.2.2.1)];exact HI.1.mono oM hN
   | false =>
    have fJ:=wP H1.1.st;have vy:=HI.1.bk _ (gM (by rw[ug,if_pos rfl,if_pos (gI.1 H1.2.2.1).1]:(L.set j (((m:Int),(y.gen:Int)),Z6 d p es))[j]?=some (((m:Int),(y.gen:Int)),Z6 d p es)));have Be:=hid (Ok HI.1 (r:=((m:Int),(y.gen:Int))) va n vc Nc.1 Nc.2 vy.1 oM);clear fJ vy;go_wp2_with fail
    refine Be.mono ?_;rintro e V6 ⟨err,rfl,F6,P8⟩;have H6:=hi2 F6 P8;clear F6 P8 y0 y1 yz yl o0 o1 o2 o3 o4 oz ol i0 i1 i2 i3 i4 iz il tq;go_wp2_with fail
    go_ret;refine⟨err,rfl,O0.trans (O0.of (D0.trans (D0.none (H1.2.1.trans H2.2 nI)) H5.2.1)) H6.1,?_⟩;rcases H6.2 with⟨rfl,y6,x6,t6,Ub,Wm,py⟩|⟨rfl,ha,U0⟩
    .exact .inl ⟨rfl,m,y6,x6,t6,Ub.mono oM hN,Wm,HI.2.1.trans py.1,py.2.1.trans HI.2.2.1,py.2.2.trans HI.2.2.2⟩
    .exact .inr ⟨rfl,ha,fD (U0.mono oM) HI.2.1⟩
  .have HX:=hi2 ha U0;clear ha U0;go_wp2_with fail
   go_ret;exact⟨4,rfl,O0.of (D0.trans (D0.none (H1.2.1.trans H2.2 nI)) H5.2.1),.inr ⟨rfl,HX.1,HX.2.mono oM⟩⟩
 .refine fF _ gF rF fun K hK=>?_;go_simp;obtain⟨b7,E6⟩:=eX V2.heap.size
  obtain⟨V4,O4⟩:=eX ((V2.alloc (.cells #[iI 0,iI 0] 35)).drew)
  have F4:Fq V2 V4:=by rw[<- O4];exact (fR.alloc _).drew
  have g7:V4.heap[b7]?=some (.cells #[iI 0,iI 0] 35):=by rw[<- O4,<- E6];exact han V2 _
  rw[E6,O4];refine hK _ _ (D0.none F4) ?_;clear hK K O4;refine rQ fun K hK=>?_;refine (wF _ la lc (H2.2.trans F4 nI) (H2.1.fr F4 fun _ _ _ h=>h)).mono ?_;rintro _ V3 ⟨p3,s3,err,rfl,F3,hr⟩;have cL:D0 B V2 V3:=D0.trans (D0.none F4) F3;have OC:=D0.heap F3 g7 dC;have H3:=hi2 cL hr;try go_simp
  refine hK _ _ cL ?_;clear hK K F3 hr cL;iterate 3
   refine oR ?_
  refine rP fun K hK=>?_;obtain⟨y0,y1,yz,yl⟩:=cells2 OC;go_simp;obtain⟨V5,M5⟩:=eX ((V3.setCell b7 (iI p3)).setCell (aA b7 1) (iI s3))
  have F5:Fr (fun k=>k=b7) V3 V5:=by rw[<- M5];exact ((Fr.refl (fun k=>k=b7) V3).setCell (a:=⟨b7,_,none⟩) (fun _=>rfl) _).setCell (a:=⟨b7,_,none⟩) (fun _=>rfl) _
  have g7':V5.heap[b7]?=some (.cells #[iI p3,iI s3] 35):=by rw[<- M5,hsc _ _ _ _ (hsc _ _ _ _ OC)];rfl
  have cM:D0 B V2 V5:=D0.trans' H3.1 F5 fun b hb e=>oM;have H5:=hi2 g7' (aI cM ((to0 (H1.1.J0 (H1.2.1.trans H2.2 nI)) H1.2.2.1 H3.1 H3.2).set F5 OC (by rw[<- E6];exact E4 H1.1.st.base (nT H1.1.st.jr (nT H1.2.1.size H2.2.size)))));rw[M5];refine hK _ _ cM ?_;clear hK K M5 F5 g7' cM y0 y1 yz yl OC g7;refine oR ?_
  try simp only[Act.put,sI,sZ,sS]
  refine o5 ?_;refine NoPanic.normal ?_;have HEq:=hid fun W=>Qw p3 s3 r.1 r.2 W;obtain⟨bq,ku⟩:=eX ((decide (p3=r.1) && decide (s3=r.2)))
  rw[ku] at HEq;have tq:=HEq.o;have RG:=hid ku;obtain⟨y0,y1,yz,yl⟩:=cells2 H5.1;obtain⟨⟨o0,o1,o2,o3,o4,oz,ol⟩,⟨i0,i1,i2,i3,i4,iz,il⟩⟩:=bD.o V5 H5.2.1;clear ku FD;rcases H5.2.2 with⟨rfl,m,rfl,rfl,y',hI,hL⟩|⟨rfl,ha,U0⟩
  .have HI:=hi2 hI hL;clear hI hL;cases bq with
   | true =>
    go_wp2_with fail
    go_ret;have Vx:((m:Int),(y.gen:Int))=r:=by
     have:=RG.o;simp at this;exact Prod.ext this.1 this.2
    refine⟨0,rfl,O0.of (D0.trans (D0.none (H1.2.1.trans H2.2 nI)) H5.2.1),.inl ⟨rfl,m,y',x,E0,?_,rfl,HI.2⟩⟩;rw[mU0 (by rw[Vx];exact H1.2.2.2.1)];exact HI.1.mono oM hN
   | false =>
    have fJ:=wP H1.1.st;have vy:=HI.1.bk _ (gM (by rw[ug,if_pos rfl,if_pos (gI.1 H1.2.2.1).1]:(L.set j (((m:Int),(y.gen:Int)),Z6 d p es))[j]?=some (((m:Int),(y.gen:Int)),Z6 d p es)));have Be:=hid (Ok HI.1 (r:=((m:Int),(y.gen:Int))) va n vc Nc.1 Nc.2 vy.1 oM);clear fJ vy;go_wp2_with fail
    refine Be.mono ?_;rintro e V6 ⟨err,rfl,F6,P8⟩;have H6:=hi2 F6 P8;clear F6 P8 y0 y1 yz yl o0 o1 o2 o3 o4 oz ol i0 i1 i2 i3 i4 iz il tq;go_wp2_with fail
    go_ret;refine⟨err,rfl,O0.trans (O0.of (D0.trans (D0.none (H1.2.1.trans H2.2 nI)) H5.2.1)) H6.1,?_⟩;rcases H6.2 with⟨rfl,y6,x6,t6,Ub,Wm,py⟩|⟨rfl,ha,U0⟩
    .exact .inl ⟨rfl,m,y6,x6,t6,Ub.mono oM hN,Wm,HI.2.1.trans py.1,py.2.1.trans HI.2.2.1,py.2.2.trans HI.2.2.2⟩
    .exact .inr ⟨rfl,ha,fD (U0.mono oM) HI.2.1⟩
  .have HX:=hi2 ha U0;clear ha U0;go_wp2_with fail
   go_ret;exact⟨4,rfl,O0.of (D0.trans (D0.none (H1.2.1.trans H2.2 nI)) H5.2.1),.inr ⟨rfl,HX.1,HX.2.mono oM⟩⟩
