/- A pack of texts. Conditions: those that each names. -/
import Derived.Test.YtgdhaaokolfdoaaGreatDoorNBC
set_option maxHeartbeats 16000000
set_option maxRecDepth 100000
set_option linter.all false
namespace Go.Proofs.YtgdhaaokolfdoaaGreatDoor
open Tryz
section
open Go.Proofs Go.RowKit Go.Sg Go.Shelf CP SF
attribute [local go_sem] Oper.semAt_some
def yx0 (p s q t:Int)(w:w9):(binOp .neq 35 (cV p s) (cV q t)).run prog w = .ok (bO (!(decide (p=q) && decide (s=t)))) w:=by
 have h:prog.underlying 35=_:=underlying35;go_simp;by_cases h1:p=q <;> by_cases h2:s=t <;> simp[h1,h2]
def qr0 (bx:Nat)(a:Option Addr)(n c be:Nat)(w:w9) :
  cP 140 #[O7 bx,sL a n c,pO be] w fun e w'=>e = rT (.func (.func 202) #[] #[pO (aP (w+1) 0),pO w,pO (aP (w+2) 0)])/\((w.alloc (.cells #[O7 bx] 105)).alloc (.cells #[sL a n c] 33)).alloc (.cells #[pO be] 240)=w':=by
 go_enter func140,ntmps140;go_wp2_with fail
 go_ret;exact⟨rfl,rfl⟩
structure dm where
 s:Sd
 va:Option Addr
 vc:Nat
abbrev encS (x:dm):Array Value:=#[mw x.s.2.2.1 x.s.1 x.s.2.1 (sL x.va x.s.2.2.2.length x.vc)]
def jN (x:dm)(W:w9):Prop:=Y3 W 0 (sL x.va x.s.2.2.2.length x.vc) x.s.2.2.2/\S8 x.s.1 x.s.2.1 x.s.2.2.2
def Hr (B:P0)(m bo:Nat)(A C:w9):Prop:=D0 B A C\/Fr (fun b=>m<=b/\(∃ c,A.heap[b]?=some (.cells c 131))/\¬ qH bo A b) A C
abbrev DR (s:Sd)(va:Option Addr)(vc:Nat):Array Value:=#[iI s.2.2.1.1,iI s.2.2.1.2,iI s.1,iI s.2.1,sL va s.2.2.2.length vc]
def CX0 (bL:Nat)(pre:List dm)(W:w9):Prop:=
 (pre=[]/\W.heap[bL]?=some (.cells #[iI 0,iI 0,iI 0,iI 0,sL none 0 0] 131))\/∃ z,pre.getLast?=some z/\W.heap[bL]?=some (.cells (DR z.s z.va z.vc) 131)/\jN z W
structure Gl (B:P0)(bx bd:Nat)(y:Cs)(P:J2)(N:Nat)(x:P1)(E0:List Rf)(t:Tr)(g:Nat)(L:List Bp)(sp:Int)(bo bL:Nat)(W1:w9)(J:List dm->World->Prop)(q:Nat)(pre:List dm)(V:w9):Prop where
 j:J pre V
 map:pre.map (·.s)=(iJ t g 0 0).take q
 len:pre.length=q
 idx:Y1 V B bx bd y P false (N+q) x E0 (t.slots g) L sp
 acc:Acc bo W1 V
 last:CX0 bL pre V
def Ww {W:w9}{b:Nat}{x0 x1 x2 x3 x4:Value}{t:TypeId}(h:W.heap[b]?=some (.cells #[x0,x1,x2,x3,x4] t))(u0 u1 u2 u3 u4:Value):(Gi W b u0 u1 u2 u3 u4).heap[b]?=some (.cells #[u0,u1,u2,u3,u4] t):=by
 unfold Gi;rw[hsc _ _ _ _ (hsc _ _ _ _ (hsc _ _ _ _ (hsc _ _ _ _ (hsc _ _ _ _ h))))];rfl
variable {bo n:Nat}{A C:w9}
def Jn (F:Fq A C)(h:qj bo A):Acc bo A C:=by
 obtain⟨v,hv⟩:=h;have hc:=F.heap hv id;refine⟨F.size,fun b c t f hb _ _=>F.heap hb id,fun g ⟨v',hv',ho⟩=>?_,⟨v,hc⟩⟩;rw[hc] at hv';cases hv';exact .inr ⟨v,hv,ho⟩
def rG0 {bL:Nat}(F:Fr (fun b=>b=bL) A C)(h:qj bo A)(hne:bL≠bo){c0:Array Value}(hL:A.heap[bL]?=some (.cells c0 131)):Acc bo A C:=by
 obtain⟨v,hv⟩:=h;have hc:=F.heap hv fun h=>hne h.symm;refine⟨F.size,fun b c t f hb ht _=>F.heap hb (fun e=>by rw[e,hL] at hb;cases hb;exact ht sP),fun g ⟨v',hv',ho⟩=>?_,⟨v,hc⟩⟩;rw[hc] at hv';cases hv';exact .inr ⟨v,hv,ho⟩
def kT.own {m:Nat}(K:kT m bo A C){base e size:Nat}{v:Value}{xs:List Value}(h:A.ownsRow base e size v n xs)(he:e≠131/\e≠124)(cC:qj bo A):C.ownsRow base e size v n xs:=by
 obtain⟨u,hu⟩:=cC;obtain⟨hl,h0|⟨g,cap,cur,hv,hb,hg,r⟩⟩:=h
 .exact⟨hl,.inl h0⟩
 .refine⟨hl,.inr ⟨g,cap,cur,hv,hb,K.keep g _ hg (fun e'=>?_) (fun⟨_,c,f,e'⟩=>?_) (.inr rfl),r⟩⟩
  .rw[e',hu] at hg;cases hg;exact he.2 rfl
  .rw[hg] at e';cases e';exact he.1 rfl
def Ts {l:List Sd}{q:Nat}{s:Sd}(hs:l[q]?=some s){pre:List dm}(hm:pre.map (·.s)=l.take q)(z:dm)(hz:z.s=s):(pre++[z]).map (·.s)=l.take (q+1):=by
 rw[B9,hm,List.map_singleton,hz,ea,hs];rfl
def ON {β:Type}{Bn:Nat}{J:β->World->Prop}(hJ:OwnFrom Bn J){s:β}{W W':w9}(h:J s W)(F:Fq W W'):J s W':=
 hJ s W W' none h ⟨F.os,F.tape,F.output,F.size,fun b hb _=>F.block b hb id⟩ (fun r e=>by cases e)
def vg0 {w:w9}{B:P0}{bx bd:Nat}{y:Cs}{P:J2}{N:Nat}{x:P1}{E0:List Rf}{L:List Bp}{sp:Int}{t:Tr}{g c:Nat}{la:Option Addr}{NJ Ib beb:Nat}
  (hI:Y1 w B bx bd y P false N x E0 (t.slots g) L sp) (hP:L.Perm (aj t 0 0)) (hok:ee t 0 0) (hh:t.high<=g) (hg:g<=3) (hn:2^g=n)
  (dR:w.heap[Ib]?=some (.cells #[O7 bx] 105)) (xB:w.heap[NJ]?=some (.cells #[sL la n c] 33)) (O9:iq w la (t.slots g)) (cC:w.heap[bo]?=some (.cells #[sL none 0 0] 124)) (h0b:0<bo) (hN:N+8<=90000) :
  xT0 Fence.wide 9 prog 202 #[pO NJ,pO Ib,pO beb] encS jN (Hr B w.heap.size bo) (kT w bo) (fun xs=>xs.map (·.s)=iJ t g 0 0) (fun _=>True) (fun W=>Y1 W B bx bd y P false (N+8) x E0 (t.slots g) L sp) n w:=fun lp J Jx W hW hJ hJx uZ hY h0=>by
 have FW:Fq w W:=Fr.of_below hW;have Di:n<=8:=by rw[<- hn];exact nT (aZ dC hg) dC
 have hlen:(iJ t g 0 0).length=n:=by rw[Il t g 0 0 hh,hn]
 have tT:=FW.size;have HR:=hid (show (∀ s ∈ eG t 0 0,(s.2.2.1,Z6 s.1 s.2.1 s.2.2.2) ∈ L)/\(∀ s ∈ eG t 0 0,S8 s.1 s.2.1 s.2.2.2/\s.2.1<2^s.1/\0<=s.1/\s.1<=0+t.high)/\(∀ r,B.at_ r<w.heap.size)/\0<bo/\bo<w.heap.size from
  ⟨fun s hs=>xD0 hP hs,fun s hs=>QM t 0 0 hok sP s hs,fun r=>hI.st.roles r,h0b,M0 cC⟩)
 have Sb:=hid fun (s s':Sd) (hs:s ∈ eG t 0 0) (fO:s' ∈ eG t 0 0) (e:s.2.2.1=s'.2.2.1)=>zi0 (List.Nodup.sublist (List.sublist_append_right _ _) hI.live.1) hP hs fO e;obtain⟨bL,Ux⟩:=eX W.heap.size
 obtain⟨W1,M2⟩:=eX (W.alloc (.cells #[iI 0,iI 0,iI 0,iI 0,sL none 0 0] 131))
 have F1:=fA M2
 have qx:=FW.trans F1 nI;have gh:W1.heap[bL]?=some (.cells #[iI 0,iI 0,iI 0,iI 0,sL none 0 0] 131):=by rw[<- M2,<- Ux];exact han _ _
 have Cx:=qx.heap cC id;have Kk:=qx.heap xB id;have Lx:=qx.heap dR id;have H1:=hid (show W1.heap[NJ]?=some (.cells #[sL la n c] 33)/\W1.heap[bo]?=some (.cells #[sL none 0 0] 124)/\W1.heap[Ib]?=some (.cells #[O7 bx] 105)/\(w<=bL/\bL<W1/\0<w.heap.size) from⟨Kk,Cx,Lx,oM,M0 gh,by have:=M0 cC;omega⟩);have Hd:=hid (O9.J0 qx);have iy:=hid (show Gl B bx bd y P N x E0 t g L sp bo bL W1 J 0 [] W1 from⟨ON hJ h0 F1,by simp,rfl,hI.J0 qx,Acc.refl ⟨_,Cx⟩,.inl ⟨rfl,gh⟩⟩);have R6:=hid M2;have GQ:=hid hlen;have HHi:=hid (show t.high<=8 by omega);have Dk:bo≠NJ/\bo≠Ib:=⟨fun e=>(by rw[e,xB] at cC;cases cC),fun e=>(by rw[e,dR] at cC;cases cC)⟩;have Bb:=hid Dk;have HbL:=hid Ux;clear hI hP hok hh hn dR xB O9 cC hW FW qx F1 gh Cx Kk Lx M2 hlen Dk h0 Ux;refine callsIn_of_wp func202 rfl trivial ?_ rfl;simp only[ntmps202,zA,lC,cJ,Nat.reduceAdd,Nat.reduceSub,dV,dW,dZ,dX,C7,ak];gi_upto_region 1 with (fail)
 rw[R6];rw[HbL];have cs:=G0 H1.1 0;simp at cs;have csl:=M0 H1.1;gi_wp2_with (fail)
 clear cs csl;gi_loopw [12] (fun tv wr=>∃ (q:Nat) (pre:List dm),q<=n/\tv = iI q/\Gl B bx bd y P N x E0 t g L sp bo bL W1 J q pre wr) fun tv _=>n-(intOf tv).toNat
 case atStart=>exact⟨0,[],C3 _,rfl,iy.o⟩
 case round =>
  obtain⟨q,pre,hq,rfl,hBk⟩:=hrel;have J4:=hid hBk;clear hBk;by_cases hlt:q<n
  .have hdq:decide ((q:Int)<(n:Int))=true:=by simp;omega
   have zY:(q:Int)<(n:Int):=oM
   have hqw:wrap64 ((q:Int)+1)=((q+1:Nat):Int):=by simp only[wrap64];omega
   obtain⟨s,hs⟩:∃ s,(iJ t g 0 0)[q]?=some s:=⟨_,gE (by rw[GQ.o];exact hlt)⟩
   have jF:(t.slots g)[q]?=some s.2.2.1:=by rw[<- EK t g 0 0,gP,hs];rfl
   have hsm:s ∈ eG t 0 0:=Og _ _ _ _ _ (gM hs);obtain⟨b,off,rfl,hb,mM,gj⟩:=Hd.row.at_ q _ jF;obtain⟨cc,hcc⟩:=Hd.ty b off rfl (List.ne_nil_of_mem (gM jF));have Pq:=J4.acc.keep b _ _ _ hcc dC (fun e=>by have h2:=H1.2.1;rw[<- e,hcc] at h2;cases h2);have c0:=(World.cell?_of_block (a:=⟨b,off+q*2,none⟩) (Pq.trans hcc.symm)).trans mM;have c1:=(World.cell?_of_block (a:=⟨b,off+q*2+1,none⟩) (Pq.trans hcc.symm)).trans gj;have cl:=M0 Pq;have HS:=hid (show (iJ t g 0 0)[q]?=some s/\s ∈ eG t 0 0/\S8 s.1 s.2.1 s.2.2.2/\s.2.1<2^s.1/\s.1<=8 from⟨hs,hsm,(HR.2.1 s hsm).1,(HR.2.1 s hsm).2.1,by
    have h4:=(HR.2.1 s hsm).2.2.2;have h5:=HHi.o;omega⟩)
   have zM:=H1.2.2.1;have Wn:=J4.acc.keep Ib _ _ _ zM dC fun e=>Bb.2 e.symm;obtain⟨b7,E6⟩:=eX wr.heap.size
   obtain⟨V1,vg⟩:=eX (wr.alloc (.cells #[iI s.2.2.1.1,iI s.2.2.1.2] 35))
   have lQ:=fA vg
   have g7:V1.heap[b7]?=some (.cells #[iI s.2.2.1.1,iI s.2.2.1.2] 35):=by rw[<- vg,<- E6];exact han _ _
   have fw:=hid vg;have qA:=hid E6;have wu:=hid (Iq (J4.idx.J0 lQ) (HR.1 s hsm) HS.2.2.1 HS.2.2.2.2 HS.2.2.2.1 oM);obtain⟨k0,k1,kz,kl⟩:=cells2 g7;have xx:=G0 (lQ.heap Wn id) 0;simp at xx;have dS:=M0 (lQ.heap Wn id);have hZ:Acc bo W1 V1:=J4.acc.trans (Jn lQ J4.acc.box);have px:J pre V1:=ON hJ J4.j lQ;have I9:=J4.idx.J0 lQ;clear hs jF hsm hb mM gj hcc Pq zM Wn vg E6;gi_upto_region 4 with (fail)
   rw[fw];rw[qA];clear c0 c1 cl;have c0:=True.intro;have c1:=True.intro;have cl:=True.intro;have hr35:=yx0;rcases J4.last with⟨hpre,EY⟩|⟨z,hz,EY,Pd⟩
   .-- the first one
    have pS:q=0:=(by have:=J4.len;rw[hpre] at this;simpa using this.symm);have PF:((q:Int) == 0)=true:=(by simp[pS]);have ln:=lQ.heap EY id;obtain⟨l0,l1,l2,l3,l4,lz,ll⟩:=cells5 ln;have bH:=hi2 px (aI (aI I9 hZ) (aI ln lQ));clear px I9 hZ ln EY lQ hpre pS;gi_wp2_with (fail)
    refine (callsIn_wide.2 wu.o).mono ?_;rintro e V2 ⟨r1,d1,p1,va,vn,vc,err,rfl,F2,⟨rfl,⟨rfl,rfl,rfl,rfl⟩,A0,zq⟩|⟨_,ha,_⟩⟩;rotate_left
    .cases ha
    obtain⟨vn,oo⟩:=eX s.2.2.2.length
    rw[oo];have mD:=F2.heap bH.2.2.1 dC;have eM:=hi2 (A0) (aI zq (aI F2 (aI oo mD)));obtain⟨b8,dJ⟩:=eX V2.heap.size
    obtain⟨V3,T8⟩:=eX (V2.alloc (.cells #[iI s.2.2.1.1,iI s.2.2.1.2,iI s.1,iI s.2.1,sL va vn vc] 131))
    have g8:V3.heap[b8]?=some (.cells #[iI s.2.2.1.1,iI s.2.2.1.2,iI s.1,iI s.2.1,sL va vn vc] 131):=(by rw[<- T8,<- dJ];exact han _ _);have C9:Fq V2 V3:=(by rw[<- T8];exact fR.alloc _);have kg:=C9.heap mD id;have H3:=hi2 C9 (aI kg g8);have fx:=hid T8;have Rz:=hid dJ;have Uu:bL<b8:=(by have:=M0 mD;omega);clear A0 zq F2 oo mD T8 g8 C9 kg wu dJ c0 c1 cl k0 k1 kz kl l0 l1 l2 l3 l4 lz ll;gi_upto_region 6 with (fail)
    rw[fx];rw[Rz];obtain⟨e0,e1,e2,e3,e4,ez,el⟩:=cells5 H3.2.2;obtain⟨l0,l1,l2,l3,l4,lz,ll⟩:=cells5 H3.2.1;gi_upto_region 9 with (fail)
    obtain⟨V,hV⟩:=eX (Gi V3 bL (iI s.2.2.1.1) (iI s.2.2.1.2) (iI s.1) (iI s.2.1) (sL va vn vc))
    rw[show ((((V3.setCell bL (iI s.2.2.1.1)).setCell (aA bL 1) (iI s.2.2.1.2)).setCell (aA bL 2) (iI s.1)).setCell (aA bL 3) (iI s.2.1)).setCell (aA bL 4) (sL va vn vc)=V from hV];have FV:Fr (fun b=>b=bL) V3 V:=(by rw[<- hV];exact aM _ _ _ _ _ _ _);obtain⟨z,hz⟩:∃ z:dm,(⟨s,va,vc⟩:dm)=z:=⟨_,rfl⟩
    have HZ:=hi2 hz (show S8 s.1 s.2.1 s.2.2.2 from HS.2.2.1);have kr:qj bo V3:=((bH.2.1.2.trans (D0.acc eM.2.2.1 bH.2.1.2.box)).trans (Jn H3.1 (D0.acc eM.2.2.1 bH.2.1.2.box).box)).box;have eW:Acc bo W1 V3:=(bH.2.1.2.trans (D0.acc eM.2.2.1 bH.2.1.2.box)).trans (Jn H3.1 (D0.acc eM.2.2.1 bH.2.1.2.box).box);have tP:¬ qH bo V3 bL:=fun h=>(eW.pt bL h).elim (fun h1=>by have:=H1.2.2.2;omega) (fun⟨u,hu,ho⟩=>by rw[H1.2.1] at hu;cases hu;cases ho)
    have o6:J pre V3:=ON hJ (uZ _ _ _ bH.1 (.inl eM.2.2.1)) H3.1;have IU:J pre V:=uZ _ _ _ o6 (.inr (FV.mono fun b _ e=>by subst e;exact⟨by have:=H1.2.2.2;have:=HR.2.2.2.2;omega,⟨_,H3.2.1⟩,tP⟩));have ln:V.heap[bL]?=some (.cells #[iI s.2.2.1.1,iI s.2.2.1.2,iI s.1,iI s.2.1,sL va s.2.2.2.length vc] 131):=(by rw[<- hV,eM.2.2.2.1];exact Ww H3.2.1 _ _ _ _ _);have Jm:jN z V:=by
     rw[<- hz];refine⟨bi (own_base (oN eM.1 H3.1)) FV fun g' I1 e=>?_,HZ.2⟩;have h1:=(bK (oN eM.1 H3.1) I1).1;have h2:=M0 bH.2.2.1;omega
    have HV:=hid (show J pre V/\(Y1 V B bx bd y P false (N+(q+1)) x E0 (t.slots g) L sp/\Acc bo W1 V)/\V.heap[bL]?=some (.cells #[iI s.2.2.1.1,iI s.2.2.1.2,iI s.1,iI s.2.1,sL va s.2.2.2.length vc] 131)/\jN z V from
     ⟨IU,⟨(eM.2.1.J0 H3.1).U2 FV H3.2.1 dC (by have:=H1.2.2.2;have:=HR.2.2.2.2;omega),eW.trans (rG0 FV kr (by have:=H1.2.2.2;have:=HR.2.2.2.2;omega) H3.2.1)⟩,ln,Jm⟩)
    have SP:=hid eM.2.2.2.1;clear hV FV hz kr eW tP o6 IU ln Jm e0 e1 e2 e3 e4 ez el l0 l1 l2 l3 l4 lz ll fx H3 eM bH;rw[<- SP];-- the yield
    have pu:=HV.2.2.2;obtain⟨fn,tmps,assign,body,hy,mE⟩:=hY pre z V HV.1 HV.2.2.2 (by rw[J4.len];exact hlt);have jG:=hy;rw[<- HZ.1] at hy;dsimp only[encS] at hy;obtain⟨v0,v1,v2,v3,v4,vz,vl⟩:=cells5 HV.2.2.1;clear jG pu;gi_wp2_with (fail)
    refine mE.mono ?_;rintro e W3 (⟨rfl,o6,Q2⟩|⟨rfl,N3⟩)
    .have tO:∀ g',qH bo V g'->W1.heap.size<=g':=fun g' h=>(HV.2.1.2.pt g' h).elim id (fun⟨u,hu,ho⟩=>by rw[H1.2.1] at hu;cases hu;cases ho)
     have zr:=HV.2.1.1.Xh Q2 HR.2.2.1 ⟨HV.2.1.2.box,HR.2.2.2.1⟩ (fun g' h=>by have:=tO g' h;have:=H1.2.2.2;omega) (by have:=HR.2.2.2.2;omega);have J8:=HV.2.1.2.trans (Q2.acc HV.2.1.2.box);have kg:W3.heap[bL]?=some (.cells (DR z.s z.va z.vc) 131):=Q2.keep bL _ (by rw[<- HZ.1];exact HV.2.2.1) (fun e=>by have:=H1.2.2.2;have:=HR.2.2.2.2;omega) (fun⟨hp,_⟩=>by have:=tO bL hp;have:=H1.2.2.2;omega) (.inr rfl);have pD:jN z W3:=⟨Q2.own HV.2.2.2.1 dC HV.2.1.2.box,HV.2.2.2.2⟩;have H3:=hid (show Gl B bx bd y P N x E0 t g L sp bo bL W1 J (q+1) (pre++[z]) W3 from⟨o6,Ts HS.1 J4.map z (by rw[<- HZ.1]),by rw[lA,J4.len];rfl,zr,J8,.inr ⟨z,by simp,kg,pD⟩⟩);clear o6 Q2 tO zr J8 kg pD v0 v1 v2 v3 v4 vz vl;gi_wp2
     go_roundw;case rel=>exact⟨q+1,pre++[z],hlt,by go_num,H3.o⟩
     case measure=>exact wM
    .have fV:=hid N3;clear N3 v0 v1 v2 v3 v4 vz vl;gi_wp2
     refine bodyPost_ret (results_none rfl _ _ _) rfl ?_;exact⟨⟨_,rfl⟩,.inr ⟨_,trivial,fV.o⟩⟩
   .have pS:¬ q=0:=fun e=>by
     have:=J4.len;rw[e] at this;rw[vH this] at hz;cases hz
    have PF:((q:Int) == 0)=false:=sO;have Ws:z.s ∈ eG t 0 0:=by
     have h1:z.s ∈ pre.map (·.s):=N4.2 ⟨z,List.mem_of_getLast? hz,rfl⟩;rw[J4.map] at h1;exact Og _ _ _ _ _ (ov h1)
    have ln:=lQ.heap EY id;by_cases hsz:s=z.s
    .obtain⟨zs,va,vc⟩:=z;simp only at hsz;subst hsz;obtain⟨l0,l1,l2,l3,l4,lz,ll⟩:=cells5 ln;have zE:jN ⟨s,va,vc⟩ V1:=⟨oN Pd.1 lQ,Pd.2⟩;have HTz:=hid zE;have bH:=hi2 px (aI (aI I9 hZ) (aI ln lQ));obtain⟨z,Y9⟩:∃ z:dm,(⟨s,va,vc⟩:dm)=z:=⟨_,rfl⟩
     have HZ:=hi2 Y9 (show S8 s.1 s.2.1 s.2.2.2 from HS.2.2.1);rw[Y9] at HTz;have hne:(!(decide (s.2.2.1.1=s.2.2.1.1) && decide (s.2.2.1.2=s.2.2.1.2)))=false:=sP;clear zE Y9 px I9 hZ ln EY lQ Pd hz Ws;gi_upto_region 9 with (fail)
     obtain⟨V,rfl⟩:=xe V1
     have HV:=hid (show J pre V/\(Y1 V B bx bd y P false (N+(q+1)) x E0 (t.slots g) L sp/\Acc bo W1 V)/\V.heap[bL]?=some (.cells #[iI s.2.2.1.1,iI s.2.2.1.2,iI s.1,iI s.2.1,sL va s.2.2.2.length vc] 131)/\jN z V from
      ⟨bH.1,⟨bH.2.1.1.mono oM oM,bH.2.1.2⟩,bH.2.2.1,HTz.o⟩)
     clear c0 c1 cl k0 k1 kz kl l0 l1 l2 l3 l4 lz ll wu;-- the yield
     have pu:=HV.2.2.2;obtain⟨fn,tmps,assign,body,hy,mE⟩:=hY pre z V HV.1 HV.2.2.2 (by rw[J4.len];exact hlt);have jG:=hy;rw[<- HZ.1] at hy;dsimp only[encS] at hy;obtain⟨v0,v1,v2,v3,v4,vz,vl⟩:=cells5 HV.2.2.1;clear jG pu;gi_wp2_with (fail)
     refine mE.mono ?_;rintro e W3 (⟨rfl,o6,Q2⟩|⟨rfl,N3⟩)
     .have tO:∀ g',qH bo V g'->W1.heap.size<=g':=fun g' h=>(HV.2.1.2.pt g' h).elim id (fun⟨u,hu,ho⟩=>by rw[H1.2.1] at hu;cases hu;cases ho)
      have zr:=HV.2.1.1.Xh Q2 HR.2.2.1 ⟨HV.2.1.2.box,HR.2.2.2.1⟩ (fun g' h=>by have:=tO g' h;have:=H1.2.2.2;omega) (by have:=HR.2.2.2.2;omega);have J8:=HV.2.1.2.trans (Q2.acc HV.2.1.2.box);have kg:W3.heap[bL]?=some (.cells (DR z.s z.va z.vc) 131):=Q2.keep bL _ (by rw[<- HZ.1];exact HV.2.2.1) (fun e=>by have:=H1.2.2.2;have:=HR.2.2.2.2;omega) (fun⟨hp,_⟩=>by have:=tO bL hp;have:=H1.2.2.2;omega) (.inr rfl);have pD:jN z W3:=⟨Q2.own HV.2.2.2.1 dC HV.2.1.2.box,HV.2.2.2.2⟩;have H3:=hid (show Gl B bx bd y P N x E0 t g L sp bo bL W1 J (q+1) (pre++[z]) W3 from⟨o6,Ts HS.1 J4.map z (by rw[<- HZ.1]),by rw[lA,J4.len];rfl,zr,J8,.inr ⟨z,by simp,kg,pD⟩⟩);clear o6 Q2 tO zr J8 kg pD v0 v1 v2 v3 v4 vz vl;gi_wp2
      go_roundw;case rel=>exact⟨q+1,pre++[z],hlt,by go_num,H3.o⟩
      case measure=>exact wM
     .have fV:=hid N3;clear N3 v0 v1 v2 v3 v4 vz vl;gi_wp2
      refine bodyPost_ret (results_none rfl _ _ _) rfl ?_;exact⟨⟨_,rfl⟩,.inr ⟨_,trivial,fV.o⟩⟩
    .have ff:¬ s.2.2.1=z.s.2.2.1:=fun e=>hsz (Sb s z.s HS.2.1 Ws e)
     obtain⟨⟨zd,zp,⟨za,zb⟩,zes⟩,zva,zvc⟩:=z;simp only at ff;have hne:(!(decide (s.2.2.1.1=za) && decide (s.2.2.1.2=zb)))=true:=by
      by_cases h1:s.2.2.1.1=za
      .by_cases h2:s.2.2.1.2=zb
       .exact absurd (Prod.ext h1 h2) ff
       .simp[h2]
      .simp[h1]
     obtain⟨l0,l1,l2,l3,l4,lz,ll⟩:=cells5 ln;have bH:=hi2 px (aI (aI I9 hZ) (aI ln lQ));clear px I9 hZ ln EY lQ Pd hz Ws hsz ff;gi_wp2_with (fail)
     refine (callsIn_wide.2 wu.o).mono ?_;rintro e V2 ⟨r1,d1,p1,va,vn,vc,err,rfl,F2,⟨rfl,⟨rfl,rfl,rfl,rfl⟩,A0,zq⟩|⟨_,ha,_⟩⟩;rotate_left
     .cases ha
     obtain⟨vn,oo⟩:=eX s.2.2.2.length
     rw[oo];have mD:=F2.heap bH.2.2.1 dC;have eM:=hi2 (A0) (aI zq (aI F2 (aI oo mD)));obtain⟨b8,dJ⟩:=eX V2.heap.size
     obtain⟨V3,T8⟩:=eX (V2.alloc (.cells #[iI s.2.2.1.1,iI s.2.2.1.2,iI s.1,iI s.2.1,sL va vn vc] 131))
     have g8:V3.heap[b8]?=some (.cells #[iI s.2.2.1.1,iI s.2.2.1.2,iI s.1,iI s.2.1,sL va vn vc] 131):=(by rw[<- T8,<- dJ];exact han _ _);have C9:Fq V2 V3:=(by rw[<- T8];exact fR.alloc _);have kg:=C9.heap mD id;have H3:=hi2 C9 (aI kg g8);have fx:=hid T8;have Rz:=hid dJ;have Uu:bL<b8:=(by have:=M0 mD;omega);clear A0 zq F2 oo mD T8 g8 C9 kg wu dJ c0 c1 cl k0 k1 kz kl l0 l1 l2 l3 l4 lz ll;gi_upto_region 6 with (fail)
     rw[fx];rw[Rz];obtain⟨e0,e1,e2,e3,e4,ez,el⟩:=cells5 H3.2.2;obtain⟨l0,l1,l2,l3,l4,lz,ll⟩:=cells5 H3.2.1;gi_upto_region 9 with (fail)
     obtain⟨V,hV⟩:=eX (Gi V3 bL (iI s.2.2.1.1) (iI s.2.2.1.2) (iI s.1) (iI s.2.1) (sL va vn vc))
     rw[show ((((V3.setCell bL (iI s.2.2.1.1)).setCell (aA bL 1) (iI s.2.2.1.2)).setCell (aA bL 2) (iI s.1)).setCell (aA bL 3) (iI s.2.1)).setCell (aA bL 4) (sL va vn vc)=V from hV];have FV:Fr (fun b=>b=bL) V3 V:=(by rw[<- hV];exact aM _ _ _ _ _ _ _);obtain⟨z,hz⟩:∃ z:dm,(⟨s,va,vc⟩:dm)=z:=⟨_,rfl⟩
     have HZ:=hi2 hz (show S8 s.1 s.2.1 s.2.2.2 from HS.2.2.1);have kr:qj bo V3:=((bH.2.1.2.trans (D0.acc eM.2.2.1 bH.2.1.2.box)).trans (Jn H3.1 (D0.acc eM.2.2.1 bH.2.1.2.box).box)).box;have eW:Acc bo W1 V3:=(bH.2.1.2.trans (D0.acc eM.2.2.1 bH.2.1.2.box)).trans (Jn H3.1 (D0.acc eM.2.2.1 bH.2.1.2.box).box);have tP:¬ qH bo V3 bL:=fun h=>(eW.pt bL h).elim (fun h1=>by have:=H1.2.2.2;omega) (fun⟨u,hu,ho⟩=>by rw[H1.2.1] at hu;cases hu;cases ho)
     have o6:J pre V3:=ON hJ (uZ _ _ _ bH.1 (.inl eM.2.2.1)) H3.1;have IU:J pre V:=uZ _ _ _ o6 (.inr (FV.mono fun b _ e=>by subst e;exact⟨by have:=H1.2.2.2;have:=HR.2.2.2.2;omega,⟨_,H3.2.1⟩,tP⟩));have ln:V.heap[bL]?=some (.cells #[iI s.2.2.1.1,iI s.2.2.1.2,iI s.1,iI s.2.1,sL va s.2.2.2.length vc] 131):=(by rw[<- hV,eM.2.2.2.1];exact Ww H3.2.1 _ _ _ _ _);have Jm:jN z V:=by
      rw[<- hz];refine⟨bi (own_base (oN eM.1 H3.1)) FV fun g' I1 e=>?_,HZ.2⟩;have h1:=(bK (oN eM.1 H3.1) I1).1;have h2:=M0 bH.2.2.1;omega
     have HV:=hid (show J pre V/\(Y1 V B bx bd y P false (N+(q+1)) x E0 (t.slots g) L sp/\Acc bo W1 V)/\V.heap[bL]?=some (.cells #[iI s.2.2.1.1,iI s.2.2.1.2,iI s.1,iI s.2.1,sL va s.2.2.2.length vc] 131)/\jN z V from
      ⟨IU,⟨(eM.2.1.J0 H3.1).U2 FV H3.2.1 dC (by have:=H1.2.2.2;have:=HR.2.2.2.2;omega),eW.trans (rG0 FV kr (by have:=H1.2.2.2;have:=HR.2.2.2.2;omega) H3.2.1)⟩,ln,Jm⟩)
     have SP:=hid eM.2.2.2.1;clear hV FV hz kr eW tP o6 IU ln Jm e0 e1 e2 e3 e4 ez el l0 l1 l2 l3 l4 lz ll fx H3 eM bH;rw[<- SP];-- the yield
     have pu:=HV.2.2.2;obtain⟨fn,tmps,assign,body,hy,mE⟩:=hY pre z V HV.1 HV.2.2.2 (by rw[J4.len];exact hlt);have jG:=hy;rw[<- HZ.1] at hy;dsimp only[encS] at hy;obtain⟨v0,v1,v2,v3,v4,vz,vl⟩:=cells5 HV.2.2.1;clear jG pu;gi_wp2_with (fail)
     refine mE.mono ?_;rintro e W3 (⟨rfl,o6,Q2⟩|⟨rfl,N3⟩)
     .have tO:∀ g',qH bo V g'->W1.heap.size<=g':=fun g' h=>(HV.2.1.2.pt g' h).elim id (fun⟨u,hu,ho⟩=>by rw[H1.2.1] at hu;cases hu;cases ho)
      have zr:=HV.2.1.1.Xh Q2 HR.2.2.1 ⟨HV.2.1.2.box,HR.2.2.2.1⟩ (fun g' h=>by have:=tO g' h;have:=H1.2.2.2;omega) (by have:=HR.2.2.2.2;omega);have J8:=HV.2.1.2.trans (Q2.acc HV.2.1.2.box);have kg:W3.heap[bL]?=some (.cells (DR z.s z.va z.vc) 131):=Q2.keep bL _ (by rw[<- HZ.1];exact HV.2.2.1) (fun e=>by have:=H1.2.2.2;have:=HR.2.2.2.2;omega) (fun⟨hp,_⟩=>by have:=tO bL hp;have:=H1.2.2.2;omega) (.inr rfl);have pD:jN z W3:=⟨Q2.own HV.2.2.2.1 dC HV.2.1.2.box,HV.2.2.2.2⟩;have H3:=hid (show Gl B bx bd y P N x E0 t g L sp bo bL W1 J (q+1) (pre++[z]) W3 from⟨o6,Ts HS.1 J4.map z (by rw[<- HZ.1]),by rw[lA,J4.len];rfl,zr,J8,.inr ⟨z,by simp,kg,pD⟩⟩);clear o6 Q2 tO zr J8 kg pD v0 v1 v2 v3 v4 vz vl;gi_wp2
      go_roundw;case rel=>exact⟨q+1,pre++[z],hlt,by go_num,H3.o⟩
      case measure=>exact wM
     .have fV:=hid N3;clear N3 v0 v1 v2 v3 v4 vz vl;gi_wp2
      refine bodyPost_ret (results_none rfl _ _ _) rfl ?_;exact⟨⟨_,rfl⟩,.inr ⟨_,trivial,fV.o⟩⟩
  .obtain rfl:q=n:=by omega
   have hdq:decide ((q:Int)<(q:Int))=false:=by simp
   gi_wp2
   go_end0
   exact⟨⟨_,rfl⟩,.inl ⟨pre,by rw[J4.map,tL (N6 GQ.o)],J4.j,J4.idx.mono oM hN⟩⟩
end
section
open Go.Proofs Go.RowKit Go.Sg Go.Shelf CP SF
attribute [local go_sem] Oper.semAt_some
abbrev cU (z:dm):List Value:=[iI z.s.2.2.1.1,iI z.s.2.2.1.2,iI z.s.1,iI z.s.2.1,sL z.va z.s.2.2.2.length z.vc]
def AD0 (B:P0)(bx bd:Nat)(y:Cs)(P:J2)(N:Nat)(x:P1)(t:Tr)(sp:Int)(w:w9)(e:Ending)(w':w9):Prop:=
 ∃ (v:Value) (zs:List dm),e = rT (tU #[v,iI 0])/\D0 B w w'/\w'.ownsRow w 131 5 v zs.length (zs.flatMap cU)/\zs.map (·.s)=iJ t x.depth 0 0/\(∀ z ∈ zs,jN z w')/\bR w' B bx bd y P false N x t sp
structure MK (w:w9)(B:P0)(m be bo:Nat)(pre:List dm)(W:w9):Prop where
 ex:∃ (v:Value) (zs:List dm),W.heap[bo]?=some (.cells #[v] 124)/\W.ownsRow m 131 5 v zs.length (zs.flatMap cU)/\zs.map (·.s)=pre.map (·.s)/\∀ z ∈ zs,jN z W
 er:W.heap[be]?=some (.cells #[iI 0] 24)
 fr:D0 B w W
variable {S:Nat->Prop}{W W' w:w9}{be bo m:Nat}{v:Value}
def zi {z:dm}(h:jN z W)(F:Fr S W W')(hS:∀ g c,W.heap[g]?=some (.cells c 118)->¬ S g):jN z W':=⟨K3 h.1 F hS,h.2⟩
variable {B:P0}
def pP0 (hm:w<=m):OwnFrom m (MK w B m be bo):=
 zh (fun pre W W' h F=>by
   obtain⟨v,zs,h1,h2,h3,h4⟩:=h.ex;exact⟨⟨v,zs,F.heap h1 id,K3 h2 F fun _ _ _ h=>h,h3,fun z hz=>zi (h4 z hz) F fun _ _ _ h=>h⟩,F.heap h.er id,h.fr.trans (D0.none F)⟩)
  (fun pre W W' k h F hk hc=>by
   have n1:∀ b cs t f,W.heap[b]?=some (.cells cs t f)->¬ b=k:=fun b cs t f hb e=>by rw[e] at hb;exact hc _ _ _ hb
   obtain⟨v,zs,h1,h2,h3,h4⟩:=h.ex;exact⟨⟨v,zs,F.heap h1 (n1 _ _ _ _ h1),K3 h2 F fun g c hg e=>n1 _ _ _ _ hg e,h3,fun z hz=>zi (h4 z hz) F fun g c hg e=>n1 _ _ _ _ hg e⟩,F.heap h.er (n1 _ _ _ _ h.er),uu h.fr F oM⟩)
def uX0 (hm:w<=m)(pre:List dm)(A C:w9)(h:MK w B m be bo pre A)(hR:Hr B m bo A C):MK w B m be bo pre C:=by
 obtain⟨v,zs,h1,h2,h3,h4⟩:=h.ex;rcases hR with F|F
 .exact⟨⟨v,zs,F.heap h1 dC,BL h2 dC F,h3,fun z hz=>zi (h4 z hz) F fun g c hg hs=>absurd (hs.2.1 c 118 _ hg) dC⟩,F.heap h.er dC,h.fr.trans F⟩
 .refine⟨⟨v,zs,F.heap h1 fun hs=>?_,bi h2 F fun g hg hs=>hs.2.2 ⟨v,h1,hg⟩,h3,fun z hz=>zi (h4 z hz) F fun g c hg hs=>?_⟩,F.heap h.er fun hs=>?_,Fr.trans h.fr F fun b hb hs=>oM⟩
  .obtain⟨-,⟨c,e⟩,-⟩:=hs;rw[h1] at e;cases e
  .obtain⟨-,⟨c',e⟩,-⟩:=hs;rw[hg] at e;cases e
  .obtain⟨-,⟨c',e⟩,-⟩:=hs;rw[h.er] at e;cases e
def Hr.keep (hlt:∀ r,B.at_ r<m)(A C:w9)(b:Nat)(o:Obj)(hR:Hr B m bo A C)(hb:m<=b)(ho:A.heap[b]?=some o)(hc:o.isCells=false):C.heap[b]?=some o:=by
 rcases hR with F|F
 .exact (D0.keeps F hlt).same _ _ hb ho hc
 .exact F.heap ho fun hs=>by obtain⟨-,⟨c,e⟩,-⟩:=hs;rw[ho] at e;cases e;cases hc
def qK0 {l:Nat}{o o':Obj}(hb:bo<m)(hl:m<=l)(ho:W.heap[l]?=some o)(hc:o.isCells=false):kT m bo W (W.putObj l o'):=by
 refine⟨rfl,rfl,rfl,by rw[iD0];exact nR _,fun b o1 h1 _ _ h2=>?_,fun g ⟨v,hv,hg⟩=>?_,fun⟨v,hv⟩=>⟨v,?_⟩⟩
 .have hne:l≠b:=fun e=>by
   subst e;rcases h2 with h2|h2
   .omega
   .rw[ho] at h1;cases h1;rw[hc] at h2;cases h2
  rw[aC _ _ _ _ hne];exact h1
 .rw[aC _ _ _ _ oM] at hv;exact .inr ⟨v,hv,hg⟩
 .rw[aC _ _ _ _ oM];exact hv
def tn0 (h:qj bo W)(o:Obj):kT m bo W (W.alloc o):=by
 obtain⟨v,hv⟩:=h;have F:Fq W (W.alloc o):=fR.alloc o;have hv':=F.heap hv id;refine⟨F.os,F.tape,F.output,F.size,fun b o1 h1 _ _ _=>F.heap h1 id,fun g ⟨u,hu,hg⟩=>?_,fun _=>⟨v,hv'⟩⟩;rw[hv'] at hu;cases hu;exact .inr ⟨v,hv,hg⟩
def uV0 {n:Nat}{R:Ending->World->Prop}{tmps:Array Value}{DD:Nat}(hK:W.heap[DD]?=some (.deferred (some [])))(hR:R (rT (tU #[v,iI 0])) (W.putObj DD (.deferred none)))(t2:tmps.getD 2 undef=v)(t3:tmps.getD 3 undef = iI 0) :
  bodyPostM Fence.wide n prog Tryz.f71 R .ret { tmps:=tmps,defers:=[{ target:=.collected DD,args:=#[] }] } W:=by
 refine⟨by simp,.inl ⟨_,_,rfl,run_takeDeferred hK,_,?_,hR⟩⟩;rw[Mk] at t2 t3;simp[results,Tryz.results71,go_sem,t2,t3]
def sE0 {d p:Nat}{es:List Bt}(h:S8 d p es):es.filter (U4 0)=es:=by
 rw[Me];intro x hx;have:=(h.2.2 x hx).1.2.1.1;simpa[U4] using this
def Iu (W:w9)(b j:Nat)(v:Value):Fr (fun k=>k=b) W (W.setCell (aA b j) v):=(Fr.refl (fun k=>k=b) W).setCell (a:=⟨b,_,none⟩) (fun _=>rfl) _
def qK {w':w9}{row:Option Nat}(h:w.grownBy w' row):Fr (fun b=>row=some b) w w':=⟨h.os,h.tape,h.output,h.size,fun b hb hn=>h.block b hb fun e=>hn e.symm⟩
def WX (F:Fr S W W')(h:∀ b o,W.heap[b]?=some o->o.isCells=false->¬ S b):KeepsFrom m W W':=⟨F.size,fun k o _ ho hc=>F.heap ho (h k o ho hc)⟩
def ownsRow_nil' (W:w9)(b e s:Nat):W.ownsRow b e s (sL none 0 0) 0 []:=⟨by simp,.inl ⟨rfl,rfl⟩⟩
def Hy:(prog.info? 131).map (fun i=>(i.zero,i.size,i.bytes))=some (some (.agg #[iI 0,iI 0,iI 0,iI 0,sL none 0 0]),5,56):=by kernel_rfl
def WW {V:w9}{v':Value}(hm:bo<m)(hv:W.heap[bo]?=some (.cells #[v] 124))(hv':V.heap[bo]?=some (.cells #[v'] 124))(F:Fr (fun b=>b=bo\/Rc bo W b) W V)(hp:∀ g,v'.ownBlock=some g->W.heap.size<=g\/v.ownBlock=some g):kT m bo W V:=
 ⟨F.os,F.tape,F.output,F.size,fun b o hb hne hno _=>F.heap hb fun hs=>hs.elim hne hno,fun g ⟨u,hu,hg⟩=>by
  rw[hv'] at hu;cases hu;exact (hp g hg).imp id fun h=>⟨v,hv,h⟩,fun _=>⟨v',hv'⟩⟩
def yZ {P:Program}{o:Oper}{a:Act}{K:Act->World->Prop}{Q:Exit->Act->World->Prop}(lF:o.guard=none)(s x:Operand)(t:TypeId)
  (ho:o.op = .call { callee:=.builtin .append,args:=#[s,x],argTypes:=#[t,t] }) (base:Nat) (e:TypeId) (i:TypeInfo) (z:Value) (size bytes:Nat) (ht:P.underlying t=some (.slice e)) (hi:P.info? e=some i) (hz:i.zero=some z)
  (fh:i.size=size) (O2:i.bytes=bytes) (dA:z.cells.size=size) (hsz:0<size) (v:Value) (n:Nat) (xs:List Value) (hs:a.eval s=v) (A0:w.ownsRow base e size v n xs)
  (ad:Addr) (m c:Nat) (news:List Value) (hx:a.eval x = sL (some ad) m c) (hc:∀ j u,news[j]?=some u->w.cell? (ad.add j)=some u) (hl:news.length=m*size) (h1:∀ u ∈ news,u.oneCell'=true) (BU:n+m<=maxLen) (aV:(n+m)*bytes<=140737488355328) (Z0:base<=w)
  (h:∀ v' w',w'.ownsRow base e size v' (n+m) (xs++news)->w.grownBy w' v.ownBlock->(v'.ownBlock=v.ownBlock\/v'.ownBlock=some w.heap.size)->K (a.put o.dst v') w'):Oper.wp P o a w K Q:=by
 obtain⟨v',w',hr,h2,h3,h4,h5⟩:=run_append_own_at (P:=P) w base t o.type e i z size bytes ht hi hz fh O2 dA hsz v n xs A0 ad m c news hl hc h1 BU aV Z0;unfold Oper.wp execOp;simp only[ho,resolve,invoke,builtin,Sem.run_bind,Sem.run_pure,Result.andThen_ok,Qu,qf,xX,hs,hx,hr];exact h v' w' h2 h3 h5
def mH0 {bx bd:Nat}{y:Cs}{P:J2}{N:Nat}{x:P1}{t:Tr}{sp:Int}(h:bR w B bx bd y P false N x t sp)(hN:N+12<=90000) :
  cP 71 #[O7 bx] w (AD0 B bx bd y P (N+12) x t sp w):=by
 refine (callsIn_wide (n:=10)).1 ?_;obtain⟨E0,L,hM,hP⟩:=h.ex;have hsm:=hM.small;have nZ:=LQ hM.per hM.c.z.most.1;have lS:=hid (show cP 48 #[A7 bd] w (Ra B y P false (N+4) (t.slots x.depth) w) from (Yk hM.st hM.dir hM.c oM).mono (by
  rintro e w' ⟨v,err,he,F,⟨h0,ho,hS⟩|⟨_,ha,_⟩⟩
  .exact⟨v,err,he,F,.inl ⟨h0,ho,hS.mono oM oM⟩⟩
  .cases ha))
 obtain⟨n,hn⟩:=eX (2^x.depth)
 have X3:(t.slots x.depth).length=n:=by rw[Tr.uO t _ (N6 h.high),hn]
 have HT:=hi2 h (aI hM (aI hP (aI hn X3)));have iC:=hid fun r=>hM.st.roles r;obtain⟨i0,i1,i2,i3,i4,iz,il⟩:=cells5 (show dG w bx B.s bd 3 3 sp from hM.idx);have h0:0<w.heap.size:=by have:=hM.qS;omega
 obtain⟨WJ,gp,cH,jz1,cI⟩:=info_parts Hy;have AX:=hi2 gp (aI cH (aI jz1 cI));clear h hM hP hsm nZ hn X3 gp cH jz1 cI;refine callsIn_of_wp_marks func71 rfl trivial ?_ rfl;simp only[ntmps71,zA,lC,cJ,Nat.reduceAdd,Nat.reduceSub,dV,dW,dZ,dX,C7,ak];gi_wp2_with (fail)
 refine (callsIn_wide.2 lS.o).mono ?_;rintro e w1 ⟨v1,err,rfl,F1,⟨rfl,A0,du⟩|⟨_,ha,_⟩⟩;rotate_left
 .cases ha
 obtain⟨la,lc,rfl,O9⟩:=uQ A0;rw[HT.2.2.2.2];have zx:Y1 w1 B bx bd y P false (N+4) x E0 (t.slots x.depth) L sp:=HT.2.1.T1 F1 du;have rL:=hi2 zx (aI O9 F1);have VZ:=F1.size;clear A0 du O9 zx i0 i1 i2 i3 i4 iz il F1 lS;obtain⟨be,hbe⟩:=eX w1.heap.size
 obtain⟨w2,A9⟩:=eX ((w1.alloc (.cells #[iI 0] 24)).alloc (.cells #[sL none 0 0] 124))
 have H2:=hi2 A9 trivial;have MX:=hid hbe;clear A9;gi_wp2_with (fail)
 clear hbe;rw[H2.1];refine (callsIn_wide.2 (qr0 bx la n lc be w2)).mono ?_;rintro e W0 ⟨rfl,B4⟩;obtain⟨QP,plb,Yg,F0⟩:=nC B4;obtain⟨Mq,Mr,F2⟩:=n9 H2.1;have fP:w2.heap.size=be+2:=by rw[<- H2.1];simp[MX.o]
 have eD:W0.heap.size=be+5:=by rw[<- B4];simp[fP]
 have E7:=F2.trans F0 nI;have qo:D0 B w W0:=D0.trans rL.2.2 (D0.none E7);rw[MX] at Mq Mr;have yn:=F0.heap Mq id;have uq:=F0.heap Mr id;have pw:=rL.1.J0 E7;have hlt:∀ r,B.at_ r<W0.heap.size:=fun r=>by have:=iC.o r;have:=rL.2.2.size;have:=MX.o;omega
 have tT:w<=(W0:Nat):=qo.size;have hwbe:w<=be:=by have:=rL.2.2.size;have:=MX.o;omega
 have h00:0<W0.heap.size:=oM
 obtain⟨m,hm⟩:=eX W0.heap.size
 have HW0:=hid hm;have eL:=hi2 fP eD;clear B4 fP eD hm;gi_wp2_with (fail)
 obtain⟨fP,eD⟩:=eL.o;refine jj0 (F:=Fence.wide) rfl oM (gf:=202) (lb:=#[pO (aP (w2+1) 0),pO w2,pO (aP (w2+2) 0)]) rfl trivial (enters_of func202 kF rfl)
  (MK w B W0.heap.size be (be+1))
  (vg0 (w:=W0) (beb:=w2.heap.size+2) pw HT.2.2.1 HT.1.ok (N6 HT.1.high) HT.1.depth HT.2.2.2.1 QP plb (rL.2.1.J0 E7) uq oM oM)
  (fun pre A C h hR=>uX0 tT pre A C h hR) (fun A C b o hR hb ho hc=>Hr.keep hlt A C b o hR hb ho hc)
  (fun W l o o' hl ho hc _ hE=>hE.Zh hl hlt h00 ho hc)
  (fun h k=>h.trans k) (fun W l o o' hl ho hc _=>qK0 oM hl ho hc) (Below.refl _ _) (fun _=>rfl)
  (fun _ _ _=>False) (pP0 tT) (fun _ _ _ _ _ h _ _=>h.elim) ⟨⟨sL none 0 0,[],uq,ownsRow_nil' _ _ _ _,rfl,by simp⟩,yn,qo⟩
  (fun z a' W=>(∃ b7:Nat,W.heap[b7]?=some (.cells (DR z.s z.va z.vc) 131)/\(∃ v:Value,W.heap[be+1]?=some (.cells #[v] 124)/\v.ownBlock≠some b7)/\jN z W/\a'={ tmps:=#[O7 bx,undef,sL none 0 0,iI 0,sL la n lc,pO be,pO (aP (be+1) 0),pO b7,O7 bx,bO false,tU #[sL la n lc,iI 0],O7 bx,pO bx,pO (aP bx 1),pO bd,tU #[sL la n lc,iI 0],sL la n lc,iI 0,iI 0,bO false,undef,O7 bx,sL la n lc,.func (.func 202) #[] #[pO (aP (w2+1) 0),pO w2,pO (aP (w2+2) 0)],mw z.s.2.2.1 z.s.1 z.s.2.1 (sL z.va z.s.2.2.2.length z.vc),undef,undef,undef,undef,undef,undef,undef,undef,undef,undef,undef,undef,undef],defers:=[] }))
  (fun z a'=>zh (fun _ W W' h F=>by
    obtain⟨b7,g1,⟨v,g2,g3⟩,g4,g5⟩:=h;exact⟨b7,F.heap g1 id,⟨v,F.heap g2 id,g3⟩,zi g4 F fun _ _ _ h=>h,g5⟩)
   (fun _ W W' k h F hk hc=>by
    obtain⟨b7,g1,⟨v,g2,g3⟩,g4,g5⟩:=h;have n1:∀ b cs t f,W.heap[b]?=some (.cells cs t f)->¬ b=k:=fun b cs t f hb e=>by rw[e] at hb;exact hc _ _ _ hb
    exact⟨b7,F.heap g1 (n1 _ _ _ _ g1),⟨v,F.heap g2 (n1 _ _ _ _ g2),g3⟩,zi g4 F fun g c hg e=>n1 _ _ _ _ hg e,g5⟩))
  ?assign ?body ?done ?stop
 case assign =>
  rintro lp pre ⟨s,va,vc⟩ W K' hI hT hK;have HI:=hi2 hI hT;have HK:=hid hK;clear hI hT hK fP eD QP plb Yg Mq Mr yn uq;gi_wp2
  obtain⟨hI,hT⟩:=HI.o;obtain⟨v,zs,h1,h2,h3,h4⟩:=hI.ex;have FA:Fq W (W.alloc (.cells (DR s va vc) 131)):=fR.alloc _;refine HK _ _ ((KeepsOthers.alloc _ _).from _) (tn0 ⟨v,h1⟩ _) ((pP0 tT).alloc _ hI) ⟨W.heap.size,han _ _,⟨v,FA.heap h1 id,fun e=>?_⟩,zi hT FA fun _ _ _ h=>h,rfl⟩;have:=(bK h2 e).2;omega
 case body =>
  rintro lp pre ⟨s,va,vc⟩ a' W hl ⟨rr,ff⟩ hI ⟨b7,bT,⟨v0,Wg,Cu⟩,hT,rfl⟩ hlen;obtain⟨v,zs,h1,h2,h3,h4⟩:=hI.ex;obtain rfl:v0=v:=by rw[h1] at Wg;cases Wg;rfl
  have lB:=hI.er;have o7:=hI.fr;have Cy:be+1<W0.heap.size:=oM
  have sX:¬ b7=be+1:=fun e=>by rw[e,h1] at bT;cases bT
  have Cz:¬ v0.ownBlock=some (be+1):=fun e=>by
   obtain⟨-,c,hc⟩:=O6 h2 e.symm;rw[h1] at hc;cases hc
  have Di:n<=8:=by rw[<- HT.2.2.2.1];exact nT (aZ dC HT.1.depth) dC
  have xR:zs.length<=8:=by have:=congrArg List.length h3;simp only[Z8] at this;omega
  have ar:=fun V (F:Fq W V)=>lX0 (oN hT.1 F) (by have:=hT.2.1;omega) s.1 s.2.1 0
  rw[sE0 hT.2] at ar;have gL:=hid ar;obtain⟨gp,cH,jz1,cI⟩:=AX.o;have hWm:W0<=(W:Nat):=by have:=M0 ff;omega
  clear hI Wg ff ar fP eD QP plb Yg Mq Mr yn uq;gi_wp2
  refine cA0 (fun V=>V.heap[b7]?=some (.cells (DR s va vc) 131)) (.rd 1 (.rd 2 (.rd 3 (.rd 4 (.two 0 5 (.op 5 (.rd 6 (.op 7 (.op 8 (.op 9 .done))))) (.rd 6 (.two 0 7 (.op 7 (.op 8 (.op 9 .done))) (.op 0 (.op 8 (.op 9 .done)))))))))) kF kF kF kF (fun h=>by obtain⟨_,_,h⟩:=h;exact h) (fun _ _ _ _ _ h=>h) bT ?_;iterate 4
   refine oP ?_ ?_ ?_;rotate_left
   .intro V hV;obtain⟨d0,d1,d2,d3,d4,dz,dl⟩:=cells5 hV;go_simp;try with_reducible rfl
  refine mu ?_ ?_
  .refine rP fun K hK=>?_;have c0:=G0 (((Fr.refl (fun _=>False) W).drew).heap h1 id) 0;simp at c0;go_simp;refine hK _ _ (((Fr.refl (fun _=>False) W).drew).heap bT id) ?_;clear hK K c0;refine rQ fun K hK=>?_;refine (gL _ ((Fr.refl (fun _=>False) W).drew)).mono ?_;rintro _ V1 ⟨aG,aH,rfl,K1,G1⟩;have F1:Fq W V1:=Fr.trans (((Fr.refl (fun _=>False) W).drew)) G1 nI;have K1:=ao K1 (Fr.size (((Fr.refl (fun _=>False) W).drew)));try go_simp
   refine hK _ _ (F1.heap bT id) ?_;clear hK K;refine oR ?_
   refine rQ fun K hK=>?_;have cG:(V1.alloc (.cells #[iI s.2.2.1.1,iI s.2.2.1.2,iI s.1,iI s.2.1,sL aG s.2.2.2.length aH] 131)).heap[V1.heap.size]?=some (.cells #[iI s.2.2.1.1,iI s.2.2.1.2,iI s.1,iI s.2.1,sL aG s.2.2.2.length aH] 131):=han _ _;obtain⟨V2,K5⟩:=eX (V1.alloc (.cells #[iI s.2.2.1.1,iI s.2.2.1.2,iI s.1,iI s.2.1,sL aG s.2.2.2.length aH] 131))
   have F2:Fq W V2:=by rw[<- K5];exact F1.alloc _
   have iw:=fA K5
   rw[K5] at cG ⊢;refine hK _ _ (F2.heap bT id) ?_;clear hK K;refine rP fun K hK=>?_;refine yZ rfl (.tmp 25) (.tmp 32) 124 rfl W0.heap.size 131 WJ _ 5 56 underlying124 gp cH jz1 cI rfl dC v0 zs.length _ rfl (oN h2 F2) ⟨V1,0,none⟩ 1 1 (cU ⟨s,aG,aH⟩) rfl (World.news_of_block cG) rfl (by simp[Value.oneCell']) (by simp[maxLen];omega) oM (by have:=F2.size;omega) ?_;intro v3 V3 K0 Q3 rj;obtain⟨a3,c3,rfl,-,-,-,-⟩:=A2 K0;have C9:Fr (fun b=>v0.ownBlock=some b) W V3:=(F2.mono nE).trans (qK Q3) nI;have kj:=C9.heap bT Cu;refine hK _ _ kj ?_;clear hK K;refine rP fun K hK=>?_;have J9:=C9.heap h1 Cz;have c0:=G0 J9 0;have cz:=X2 J9 0;have cl:=M0 J9;simp at c0;go_simp;obtain⟨V4,O4⟩:=eX (V3.setCell (aA (be+1) 0) (sL a3 (zs.length+1) c3))
   rw[O4];have Q5:Fr (fun b=>b=(be+1)) V3 V4:=by rw[<- O4];exact Iu _ _ _ _
   refine hK _ _ (Q5.heap kj sX) ?_;clear hK K;try simp only[Act.put,sI,sZ,sS]
   refine o5 ?_;refine NoPanic.normal ?_;gi_wp2
   have kq:V4.heap[(be+1)]?=some (.cells #[(sL a3 (zs.length+1) c3)] 124):=by rw[<- O4,hsc _ _ _ _ J9];rfl
   have F4:Fr (fun b=>b=(be+1)\/v0.ownBlock=some b) W V4:=(C9.mono fun _ _ h=>.inr h).trans Q5 fun _ _ h=>.inl h;have hgo:∀ g,v0.ownBlock=some g->W0.heap.size<=g/\∃ c,W.heap[g]?=some (.cells c 131):=fun g hg=>O6 h2 hg.symm
   have K4:kT W0.heap.size (be+1) W V4:=WW Cy h1 kq (F4.mono fun b _ hs=>hs.imp id fun hg=>⟨⟨v0,h1,hg⟩,by obtain⟨-,c,hc⟩:=hgo b hg;exact⟨c,_,hc⟩⟩) (fun g hg=>by
    rcases rj with e|e
    .exact .inr (e ▸ hg)
    .rw[e] at hg;cases hg;exact .inl F2.size)
   have C2:V4.ownsRow W0 131 5 (sL a3 (zs.length+1) c3) (zs.length+1) (zs.flatMap cU++cU ⟨s,aG,aH⟩):=bi K0 Q5 (fun g hg e=>by
    subst e;obtain⟨-,c,hc⟩:=O6 K0 hg.symm;rw[J9] at hc;cases hc)
   refine⟨WX F4 fun b o ho hc hs=>?_,K4,⟨(sL a3 (zs.length+1) c3),zs++[⟨s,aG,aH⟩],kq,?_,?_,fun z hz=>?_⟩,K4.keep be _ lB (fun e=>by rw[e,h1] at lB;cases lB) (fun⟨_,c,f,hc⟩=>by rw[lB] at hc;cases hc) (.inr rfl),?_⟩
   .rcases hs with e|hg
    .rw[e,h1] at ho;cases ho;cases hc
    .obtain⟨-,c,hcc⟩:=hgo b hg;rw[hcc] at ho;cases ho;cases hc
   .rw[lA,dY,DN,XM];exact C2
   .rw[B9,B9,h3];rfl
   .rcases X5.1 hz with hz|hz
    .exact⟨K4.own (h4 z hz).1 dC ⟨_,h1⟩,(h4 z hz).2⟩
    .rw[mZ] at hz;subst hz;refine⟨bi (bi (oN (own_base K1) iw) (qK Q3) fun g hg hs=>?_) Q5 fun g hg e=>?_,hT.2⟩
     .have h5:=(bK K1 hg).1;obtain⟨-,c,hcc⟩:=hgo g hs;have:=M0 hcc;omega
     .have h5:=(bK K1 hg).1;have:=M0 h1;omega
   .exact Fr.trans o7 (F4.mono (S':=fun b=>W0.heap.size<=b\/b=(be+1)) fun b _ hs=>hs.elim .inr fun hg=>.inl (hgo b hg).1) (fun b hb hs=>by
     exfalso;rcases hs with hs|hs <;> omega)
  .refine rQ fun K hK=>?_;refine (gL _ ((Fr.refl (fun _=>False) W).drew)).mono ?_;rintro _ V1 ⟨aG,aH,rfl,K1,G1⟩;have F1:Fq W V1:=Fr.trans (((Fr.refl (fun _=>False) W).drew)) G1 nI;have K1:=ao K1 (Fr.size (((Fr.refl (fun _=>False) W).drew)));try go_simp
   refine hK _ _ (F1.heap bT id) ?_;clear hK K;refine oR ?_
   refine mu ?_ ?_
   .refine rP fun K hK=>?_;have c0:=G0 (F1.heap h1 id) 0;simp at c0;go_simp;refine hK _ _ (F1.heap bT id) ?_;clear hK K c0;refine rQ fun K hK=>?_;have cG:(V1.alloc (.cells #[iI s.2.2.1.1,iI s.2.2.1.2,iI s.1,iI s.2.1,sL aG s.2.2.2.length aH] 131)).heap[V1.heap.size]?=some (.cells #[iI s.2.2.1.1,iI s.2.2.1.2,iI s.1,iI s.2.1,sL aG s.2.2.2.length aH] 131):=han _ _;obtain⟨V2,K5⟩:=eX (V1.alloc (.cells #[iI s.2.2.1.1,iI s.2.2.1.2,iI s.1,iI s.2.1,sL aG s.2.2.2.length aH] 131))
    have F2:Fq W V2:=(by rw[<- K5];exact F1.alloc _);have iw:Fq V1 V2:=(by rw[<- K5];exact fR.alloc _);rw[K5] at cG ⊢;refine hK _ _ (F2.heap bT id) ?_;clear hK K;refine rP fun K hK=>?_;refine yZ rfl (.tmp 25) (.tmp 32) 124 rfl W0.heap.size 131 WJ _ 5 56 underlying124 gp cH jz1 cI rfl dC v0 zs.length _ rfl (oN h2 F2) ⟨V1,0,none⟩ 1 1 (cU ⟨s,aG,aH⟩) rfl (World.news_of_block cG) rfl (by simp[Value.oneCell']) (by simp[maxLen];omega) oM (by have:=F2.size;omega) ?_;intro v3 V3 K0 Q3 rj;obtain⟨a3,c3,rfl,-,-,-,-⟩:=A2 K0;have C9:Fr (fun b=>v0.ownBlock=some b) W V3:=(F2.mono nE).trans (qK Q3) nI;have kj:=C9.heap bT Cu;refine hK _ _ kj ?_;clear hK K;refine rP fun K hK=>?_;have J9:=C9.heap h1 Cz;have c0:=G0 J9 0;have cz:=X2 J9 0;have cl:=M0 J9;simp at c0;go_simp;obtain⟨V4,O4⟩:=eX (V3.setCell (aA (be+1) 0) (sL a3 (zs.length+1) c3))
    rw[O4];have Q5:Fr (fun b=>b=(be+1)) V3 V4:=(by rw[<- O4];exact Iu _ _ _ _);refine hK _ _ (Q5.heap kj sX) ?_;clear hK K;try simp only[Act.put,sI,sZ,sS]
    refine o5 ?_;refine NoPanic.normal ?_;gi_wp2
    have kq:V4.heap[(be+1)]?=some (.cells #[(sL a3 (zs.length+1) c3)] 124):=(by rw[<- O4,hsc _ _ _ _ J9];rfl);have F4:Fr (fun b=>b=(be+1)\/v0.ownBlock=some b) W V4:=(C9.mono fun _ _ h=>.inr h).trans Q5 fun _ _ h=>.inl h;have hgo:∀ g,v0.ownBlock=some g->W0.heap.size<=g/\∃ c,W.heap[g]?=some (.cells c 131):=fun g hg=>O6 h2 hg.symm
    have K4:kT W0.heap.size (be+1) W V4:=WW Cy h1 kq (F4.mono fun b _ hs=>hs.imp id fun hg=>⟨⟨v0,h1,hg⟩,by obtain⟨-,c,hc⟩:=hgo b hg;exact⟨c,_,hc⟩⟩) (fun g hg=>by
     rcases rj with e|e
     .exact .inr (e ▸ hg)
     .rw[e] at hg;cases hg;exact .inl F2.size)
    have C2:V4.ownsRow W0 131 5 (sL a3 (zs.length+1) c3) (zs.length+1) (zs.flatMap cU++cU ⟨s,aG,aH⟩):=bi K0 Q5 (fun g hg e=>by
     subst e;obtain⟨-,c,hc⟩:=O6 K0 hg.symm;rw[J9] at hc;cases hc)
    refine⟨WX F4 fun b o ho hc hs=>?_,K4,⟨(sL a3 (zs.length+1) c3),zs++[⟨s,aG,aH⟩],kq,?_,?_,fun z hz=>?_⟩,K4.keep be _ lB (fun e=>by rw[e,h1] at lB;cases lB) (fun⟨_,c,f,hc⟩=>by rw[lB] at hc;cases hc) (.inr rfl),?_⟩
    .rcases hs with e|hg
     .rw[e,h1] at ho;cases ho;cases hc
     .obtain⟨-,c,hcc⟩:=hgo b hg;rw[hcc] at ho;cases ho;cases hc
    .rw[lA,dY,DN,XM];exact C2
    .rw[B9,B9,h3];rfl
    .rcases X5.1 hz with hz|hz
     .exact⟨K4.own (h4 z hz).1 dC ⟨_,h1⟩,(h4 z hz).2⟩
     .rw[mZ] at hz;subst hz;refine⟨bi (bi (oN (own_base K1) iw) (qK Q3) fun g hg hs=>?_) Q5 fun g hg e=>?_,hT.2⟩
      .have h5:=(bK K1 hg).1;obtain⟨-,c,hcc⟩:=hgo g hs;have:=M0 hcc;omega
      .have h5:=(bK K1 hg).1;have:=M0 h1;omega
    .exact Fr.trans o7 (F4.mono (S':=fun b=>W0.heap.size<=b\/b=(be+1)) fun b _ hs=>hs.elim .inr fun hg=>.inl (hgo b hg).1) (fun b hb hs=>by
      exfalso;rcases hs with hs|hs <;> omega)
   .refine rQ fun K hK=>?_;have cG:(V1.alloc (.cells #[iI s.2.2.1.1,iI s.2.2.1.2,iI s.1,iI s.2.1,sL aG s.2.2.2.length aH] 131)).heap[V1.heap.size]?=some (.cells #[iI s.2.2.1.1,iI s.2.2.1.2,iI s.1,iI s.2.1,sL aG s.2.2.2.length aH] 131):=han _ _;obtain⟨V2,K5⟩:=eX (V1.alloc (.cells #[iI s.2.2.1.1,iI s.2.2.1.2,iI s.1,iI s.2.1,sL aG s.2.2.2.length aH] 131))
    have F2:Fq W V2:=(by rw[<- K5];exact F1.alloc _);have iw:Fq V1 V2:=(by rw[<- K5];exact fR.alloc _);rw[K5] at cG ⊢;refine hK _ _ (F2.heap bT id) ?_;clear hK K;refine rP fun K hK=>?_;have c0:=G0 (F2.heap h1 id) 0;simp at c0;go_simp;refine hK _ _ (F2.heap bT id) ?_;clear hK K c0;refine rP fun K hK=>?_;refine yZ rfl (.tmp 25) (.tmp 32) 124 rfl W0.heap.size 131 WJ _ 5 56 underlying124 gp cH jz1 cI rfl dC v0 zs.length _ rfl (oN h2 F2) ⟨V1,0,none⟩ 1 1 (cU ⟨s,aG,aH⟩) rfl (World.news_of_block cG) rfl (by simp[Value.oneCell']) (by simp[maxLen];omega) oM (by have:=F2.size;omega) ?_;intro v3 V3 K0 Q3 rj;obtain⟨a3,c3,rfl,-,-,-,-⟩:=A2 K0;have C9:Fr (fun b=>v0.ownBlock=some b) W V3:=(F2.mono nE).trans (qK Q3) nI;have kj:=C9.heap bT Cu;refine hK _ _ kj ?_;clear hK K;refine rP fun K hK=>?_;have J9:=C9.heap h1 Cz;have c0:=G0 J9 0;have cz:=X2 J9 0;have cl:=M0 J9;simp at c0;go_simp;obtain⟨V4,O4⟩:=eX (V3.setCell (aA (be+1) 0) (sL a3 (zs.length+1) c3))
    rw[O4];have Q5:Fr (fun b=>b=(be+1)) V3 V4:=(by rw[<- O4];exact Iu _ _ _ _);refine hK _ _ (Q5.heap kj sX) ?_;clear hK K;try simp only[Act.put,sI,sZ,sS]
    refine o5 ?_;refine NoPanic.normal ?_;gi_wp2
    have kq:V4.heap[(be+1)]?=some (.cells #[(sL a3 (zs.length+1) c3)] 124):=(by rw[<- O4,hsc _ _ _ _ J9];rfl);have F4:Fr (fun b=>b=(be+1)\/v0.ownBlock=some b) W V4:=(C9.mono fun _ _ h=>.inr h).trans Q5 fun _ _ h=>.inl h;have hgo:∀ g,v0.ownBlock=some g->W0.heap.size<=g/\∃ c,W.heap[g]?=some (.cells c 131):=fun g hg=>O6 h2 hg.symm
    have K4:kT W0.heap.size (be+1) W V4:=WW Cy h1 kq (F4.mono fun b _ hs=>hs.imp id fun hg=>⟨⟨v0,h1,hg⟩,by obtain⟨-,c,hc⟩:=hgo b hg;exact⟨c,_,hc⟩⟩) (fun g hg=>by
     rcases rj with e|e
     .exact .inr (e ▸ hg)
     .rw[e] at hg;cases hg;exact .inl F2.size)
    have C2:V4.ownsRow W0 131 5 (sL a3 (zs.length+1) c3) (zs.length+1) (zs.flatMap cU++cU ⟨s,aG,aH⟩):=bi K0 Q5 (fun g hg e=>by
     subst e;obtain⟨-,c,hc⟩:=O6 K0 hg.symm;rw[J9] at hc;cases hc)
    refine⟨WX F4 fun b o ho hc hs=>?_,K4,⟨(sL a3 (zs.length+1) c3),zs++[⟨s,aG,aH⟩],kq,?_,?_,fun z hz=>?_⟩,K4.keep be _ lB (fun e=>by rw[e,h1] at lB;cases lB) (fun⟨_,c,f,hc⟩=>by rw[lB] at hc;cases hc) (.inr rfl),?_⟩
    .rcases hs with e|hg
     .rw[e,h1] at ho;cases ho;cases hc
     .obtain⟨-,c,hcc⟩:=hgo b hg;rw[hcc] at ho;cases ho;cases hc
    .rw[lA,dY,DN,XM];exact C2
    .rw[B9,B9,h3];rfl
    .rcases X5.1 hz with hz|hz
     .exact⟨K4.own (h4 z hz).1 dC ⟨_,h1⟩,(h4 z hz).2⟩
     .rw[mZ] at hz;subst hz;refine⟨bi (bi (oN (own_base K1) iw) (qK Q3) fun g hg hs=>?_) Q5 fun g hg e=>?_,hT.2⟩
      .have h5:=(bK K1 hg).1;obtain⟨-,c,hcc⟩:=hgo g hs;have:=M0 hcc;omega
      .have h5:=(bK K1 hg).1;have:=M0 h1;omega
    .exact Fr.trans o7 (F4.mono (S':=fun b=>W0.heap.size<=b\/b=(be+1)) fun b _ hs=>hs.elim .inr fun hg=>.inl (hgo b hg).1) (fun b hb hs=>by
      exfalso;rcases hs with hs|hs <;> omega)
 case done =>
  rintro D xs W wZ jj hI hE hK;obtain⟨v,zs,h1,h2,h3,h4⟩:=hI.ex;have d0:=G0 hI.er 0;have d1:=G0 h1 0;simp at d0 d1;have dl:=M0 hI.er;have dl1:=M0 h1;have HI:=hi2 hI.fr (aI h2 (aI h3 (aI h4 (aI hE (aI hK jj)))));clear hI h1 h2 h3 h4 hE hK fP eD QP plb Yg Mq Mr yn uq jj;gi_wp2
  obtain⟨o7,h2,h3,h4,hE,hK,jj⟩:=HI.o;have FP:Fr (fun b=>b=D) W (W.putObj D (.deferred none)):=(Fr.refl (fun b=>b=D) _).putObj (fun _=>rfl) _;have nc:∀ b c t f,W.heap[b]?=some (.cells c t f)->¬ b=D:=fun b c t f hb e=>by rw[e,hK] at hb;cases hb
  refine uV0 (v:=v) hK ⟨v,zs,rfl,uu o7 FP oM,?_,h3.trans jj,fun z hz=>zi (h4 z hz) FP fun g c hg e=>nc _ _ _ _ hg e,⟨⟨E0,L,(hE.Zh wZ hlt h00 hK rfl).mono oM hN,HT.2.2.1⟩,HT.1.high,HT.1.ok⟩⟩ rfl rfl;exact K3 (ao h2 tT) FP fun g c hg e=>nc _ _ _ _ hg e
 case stop=>exact fun _ _ _ _ _ _ h=>h.elim
end
section
open Go.RowKit Go.Sg Go.Sg.Bits Go.Sg.r4 CP SF
def OO:∀ (t:Tr) (d p:Nat),(eG t d p).map (·.2.2.1)=t.refs
 | .leaf r es,d,p=>rfl
 | .node l r,d,p=>by simp only[eG,Tr.refs,B9,OO l,OO r]
