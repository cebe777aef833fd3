/- A pack of texts. Conditions: those that each names. -/
import Derived.Test.YtgdhaaokolfdoaaGreatDoorNBA
set_option maxHeartbeats 16000000
set_option maxRecDepth 100000
set_option linter.all false
namespace Go.Proofs.YtgdhaaokolfdoaaGreatDoor
open Tryz
section
open Go.RowKit Go.Sg Go.Sg.Bits Go.Sg.r4 CP SF
variable {B:P0}{X:Nat->Prop}{w w':w9}{v:Value}{N bd bx d g p:Nat}{a:Bool}{sp:Int}
def uT {Y:Nat->Prop}(F:O0 B X w w')(h:∀ b,X b->Y b):O0 B Y w w':=Fr.mono F fun b _ hs=>hs.imp id (h b)
def XG {b e size n:Nat}{xs:List Value}(h:w.ownsRow b e size v n xs)(he:e ∉ aR)(F:O0 B X w w')(hX:∀ g,v.ownBlock=some g->¬ X g):w'.ownsRow b e size v n xs:=by
 obtain⟨hl,h0|⟨g,cap,cur,hv,hb,hg,r⟩⟩:=h
 .exact⟨hl,.inl h0⟩
 .exact⟨hl,.inr ⟨g,cap,cur,hv,hb,yX F hg he (hX g (by rw[hv];rfl)),r⟩⟩
variable {y:Cs}{x:P1}{slots E0:List Rf}{L:List Bp}
def Y1.splits {P:J2}(h:Y1 w B bx bd y P a N x E0 slots L sp)(z:Int):Y1 (w.setCell (aA bx 4) (iI z)) B bx bd y P a N x E0 slots L z:=by
 have F:Fr (fun k=>k=bx) w (w.setCell (aA bx 4) (iI z)):=(Fr.refl (fun k=>k=bx) w).setCell (a:=⟨bx,_,none⟩) (fun _=>rfl) _;have h0:0<bx:=E4 h.st.base h.base.2;refine { h with st:=h.st.M3 F h.idx dC h0,idx:=?_,dir:=F.heap h.dir (fun e=>h.qS.2.2 e.symm) };show (w.setCell (aA bx 4) (iI z)).heap[bx]?=_;rw[hsc _ _ _ _ h.idx];rfl
def jV0 {i:Nat}(hd:d+1<=g)(hi:i ∈ fS (2*p*2^(g-(d+1))) (2^(g-(d+1)))):i ∈ fS (p*2^(g-d)) (2^(g-d))/\i ∉ fS ((2*p+1)*2^(g-(d+1))) (2^(g-(d+1))):=by
 have e:2^(g-d)=2*2^(g-(d+1)):=by
  rw[show g-d=g-(d+1)+1 by omega,dB];omega
 rw[e];generalize 2^(g-(d+1))=q at *
 have e2:p*(2*q)=2*p*q:=by rw[<- DM,dU p 2]
 rw[e2,show (2*p+1)*q=2*p*q+q by rw[DU,Nat.one_mul]];generalize 2*p*q=z at *
 simp only[LM] at hi ⊢;omega
def AB0 (B:P0)(bx bd:Nat)(y:Cs)(P:J2)(a:Bool)(N:Nat)(g:Nat)(slots:List Rf)(S0 S1:List Nat)(L:List Bp)(j:Nat)(l0 l1:List Int)(sp:Int)(w:w9)(e:Ending)(w':w9):Prop:=
 ∃ err,e = rT (iI err)/\O0 B (fun b=>b=bd\/b=bx) w w'/\((err=0/\∃ (m0 m1:Nat) (y':Cs) (x':P1) (Y7:List Rf),Y1 w' B bx bd y' P a N x' Y7 (R4 (R4 slots S1 ((m1:Int),(y.gen:Int))) S0 ((m0:Int),(y.gen:Int))) ((L++[(((m1:Int),(y.gen:Int)),l1)]).set j (((m0:Int),(y.gen:Int)),l0)) sp/\x'.depth=g/\(Like y y'/\y'.gen=y.gen/\y'.dead=y.dead))\/(err=4/\a=true/\C5 w' B y P N))
def vz0 {P:D4}(h:Y1 w B bx bd y P a N x E0 slots L sp){r:Rf}{j:Nat}{es:List Bt}{xV:List Int}{sl':List Rf}(hj:L[j]?=some (r,xV))(hE:Y3 w 0 v es)(hk:S8 d p es)(hd:d<=x.depth)(ie:d<3)(hp:p<2^d)(hL:L.length<10)(hsp:0<=sp/\sp<=100000)
  (hg:d=x.depth/\g=x.depth+1/\sl'=ep slots\/d≠x.depth/\g=x.depth/\sl'=slots)
  (X3:∀ i ∈ fS (p*2^(g-d)) (2^(g-d)),sl'[i]?=some r) (hN:N+141<=90000) :
  cP 133 #[O7 bx,mw r d p v] w (AB0 B bx bd y P a (N+141) g sl' (fS (2*p*2^(g-(d+1))) (2^(g-(d+1)))) (fS ((2*p+1)*2^(g-(d+1))) (2^(g-(d+1)))) L j (Z6 (d+1) (2*p) (es.filter fun x=>!ac d x)) (Z6 (d+1) (2*p+1) (es.filter (ac d))) (sp+1) w):=by
 obtain⟨va,vc,rfl,-,-,-,-⟩:=A2 hE;obtain⟨n,hn⟩:=eX es.length
 have hsm:=h.small;have pQ:p<1048576:=E4 hp (nT (aZ dC (by omega:d<=20)) dC);have Bl:=hid (show wrap64 (sp+1)=sp+1 by simp only[wrap64];omega);have pF:=h.qS;obtain⟨w1,I0⟩:=eX (w.alloc (.cells #[iI r.1,iI r.2,iI d,iI p,sL va n vc] 131))
 have b3:=fB I0
 have F1:=fA I0
 have HB:=hid fun (V:w9) (F:O0 B (fun b=>b=bd\/b=bx) w1 V)=>cells5 (yX F b3 dC fun e=>oM);have I3:=hid fun (V:w9) (F:Fq w1 V)=>aI (cells5 (F.heap b3 id)) (cells5 (F.heap (F1.heap h.idx id) id));have iA:=hid fun V (F:Fq w1 V)=>In (F.heap (F1.heap h.dir id) id:N2 V bd B.s x);have Z5:=oN hE F1;have hEX:∀ g',(sL va es.length vc).ownBlock=some g'->¬ (g'=bd\/g'=bx):=fun g' I1 e=>by
  obtain⟨_,⟨h0,_⟩|⟨g2,cap,cur,hv,_,db,_⟩⟩:=hE
  .rw[h0] at I1;cases I1
  .rw[hv] at I1;have e2:g2=g':=Option.some.inj I1;subst e2;rcases e with e|e
   .have:=h.dir;unfold N2 at this;rw[<- e,db] at this;cases this
   .have:=h.idx;unfold dG at this;rw[<- e,db] at this;cases this
 have HE:=hi2 (fun V (F:O0 B (fun b=>b=bd\/b=bx) w1 V)=>(show Y3 V 0 (sL va es.length vc) es from XG Z5 dC F hEX)) (aI hk hn);obtain⟨gx,hgx⟩:=eX x.depth
 have HD:=hi2 hgx (aI h (aI F1 (aI hj (aI X3 hL))));rw[hgx] at iA hd hg;have Ek:=hid hg;have FG:Fq w1 w1.drew:=fR.drew;have HW:=hid I0;obtain⟨⟨o0,o1,o2,o3,o4,oz,ol⟩,⟨i0,i1,i2,i3,i4,iz,il⟩⟩:=I3.o _ fR;rw[hn];clear h hj hE hk X3 I0 b3 F1 Z5 hEX hn hgx hL hg hsm;go_enter func133,ntmps133;go_upto_region 1 with fail
 rw[HW];refine wp_region_noPanic ?_;refine q8 (fun V=>Fq w1 V) (.rd 0 (.rd 1 (.rd 2 (.rd 3 (.rd 4 (.rd 5 (.rd 6 (.op 7 (.rd 8 .done))))))))) kF kF kF (fun _ _ _ _ _ h=>h) FG ?_;iterate 7
  refine oP ?_ ?_ ?_;rotate_left
  .intro V hV;obtain⟨⟨o0,o1,o2,o3,o4,oz,ol⟩,⟨i0,i1,i2,i3,i4,iz,il⟩⟩:=I3.o V hV;go_simp;try with_reducible rfl
 refine rQ fun K hK=>?_;refine (iA _ FG).mono ?_;rintro _ _ ⟨rfl,rfl⟩;try go_simp
 refine hK _ _ FG ?_;clear hK K;refine oR ?_
 try simp only[Act.put,sI,sZ,sS]
 refine o5 ?_;refine NoPanic.normal ?_;clear o0 o1 o2 o3 o4 oz ol i0 i1 i2 i3 i4 iz il;by_cases fI:d=gx
 .subst fI;have ku:((d:Int) == (d:Int))=true:=by simp
  obtain⟨-,⟨i0,i1,i2,i3,i4,iz,il⟩⟩:=I3.o _ FG;have ZL:=hid (show cP 49 #[A7 bd] w1.drew _ from (HD.2.1.J0 (HD.2.2.1.trans FG nI)).double (by rw[HD.1];omega) oM);go_wp2_with fail
  refine ZL.mono ?_;rintro e V ⟨err,rfl,F2,hr⟩;have H2:=hi2 F2 hr;clear F2 hr i0 i1 i2 i3 i4 iz il;rcases H2.2 with⟨rfl,y2,x2,t2,zq,ce,mD⟩|⟨rfl,ha,U0⟩
  .have HV:=hid (show O0 B (fun b=>b=bd\/b=bx) w1 V/\Y1 V B bx bd y2 P a (N+100) x2 t2 sl' L sp/\x2.depth=g/\Like y y2/\y2.gen=y.gen/\y2.dead=y.dead from by
    have hs:g=d+1/\sl'=ep slots:=by
     rcases Ek.o with h|h
     .exact h.2
     .exact absurd rfl h.1
    refine⟨O0.trans (O0.none FG) (uT H2.1 fun b hb=>.inl hb),by rw[hs.2];exact zq,?_,mD⟩;rw[ce,hs.1,HD.1])
   clear zq ce mD ZL ku FG;obtain⟨c0,c1,c2,c3,c4,cz,cl⟩:=cells5 HV.2.1.idx;have Dv:=Bl.o;go_upto_region 6 with fail
   clear Dv;obtain⟨V5,M5⟩:=eX (V.setCell (aA bx 4) (iI (sp+1)))
   have Ce:=HV.2.1.splits (sp+1);have F5:O0 B (fun b=>b=bd\/b=bx) w1 V5:=by rw[<- M5];exact O0.trans HV.1 (Fr.setCell (O0.refl _ _ _) (fun _=>.inr (.inr rfl)) _)
   rw[M5] at Ce;rw[M5];obtain⟨o0,o1,o2,o3,o4,oz,ol⟩:=HB.o V5 F5;have jU:=hid (lU0 (HE.1 V5 F5) (by have:=HE.2.1.1;omega) (fun z hz=>(HE.2.1.2.2 z hz).1.1) d p oM pQ);have H5:=hi2 F5 Ce;rw[HE.2.2] at jU;clear c0 c1 c2 c3 c4 cz cl M5 Ce F5;go_wp2_with fail
   refine jU.mono ?_;rintro e V6 ⟨a0,k0,a1,k1,rfl,zQ,vE,F6⟩;obtain⟨e0,tj⟩:∃ e0,es.filter (fun x=>!ac d x)=e0:=⟨_,rfl⟩
   obtain⟨e1,tm⟩:=eX (es.filter (ac d))
   have dw:=Oe HE.2.1 (by omega:d<20);rw[tj,tm] at dw;rw[tj] at zQ;rw[tm] at vE;rw[tj,tm];obtain⟨dd,hdd⟩:=eX (d+1)
   obtain⟨p1,fM⟩:=eX (2*p+1)
   obtain⟨p0,eB⟩:=eX (2*p)
   have aX:p0<2^dd/\p1<2^dd:=by rw[<- hdd,dB];omega
   rw[fM,eB,hdd] at dw;rw[fM,eB,hdd];obtain⟨n0,lI⟩:=eX e0.length
   obtain⟨n1,ax⟩:=eX e1.length
   have iC:=hi2 hdd (aI eB (aI fM (aI tj tm)));have Bc:=hid aX;have J4:=hid dw;have Vy:n1<=3:=by rw[<- ax];exact dw.2.1
   have UQ:dd<=3:=oM
   have Fs:p1<1048576:=E4 aX.2 (nT (aZ dC (by omega:dd<=20)) dC);rw[lI,ax];have qu:=H5.2.J0 F6;have HO:=hi2 zQ (aI vE (aI lI (aI ax F6.size)));have Gu:=O0.trans H5.1 (O0.none F6);clear hdd eB fM tj tm lI ax zQ vE dw aX;go_upto_region 7 with fail
   obtain⟨V7,m8⟩:=eX (V6.alloc (.cells #[iI dd,iI p0,sL a0 n0 k0,iI dd,iI p1,sL a1 n1 k1] 301))
   rw[m8];obtain⟨b6,R1⟩:=eX V6.heap.size
   rw[R1];have g6:V7.heap[b6]?=some (.cells #[iI dd,iI p0,sL a0 n0 k0,iI dd,iI p1,sL a1 n1 k1] 301):=by rw[<- m8,<- R1];exact han V6 _
   have F7:=fA m8
   have Cf:=qu.J0 F7;have Cr:b6≠bd/\b6≠bx:=by
    have h1:=H5.2.qS;have h2:=F6.size;omega
   have qA:=hid fun V (F:Fq V7 V)=>aI (z7 (F.heap g6 id)) (cells5 (F.heap Cf.idx id));have rN:=hid (fun V (F:Fq V7 V)=>PP (oN (oN (own_base HO.2.1) F7) F) (by rw[HO.2.2.2.1];omega) (fun z hz=>(J4.2.2.2 z hz).1) dd p1 3 oM Fs J4.2.1 dC fun W FW=>OL (oN (oN (oN (own_base HO.2.1) F7) F) FW) J4.2 oM Bc.2);rw[HO.2.2.2.1] at rN;have H7:=hi2 Cf (aI (O0.trans Gu (O0.none F7)) (aI g6 F7));obtain⟨⟨q0,q1,q2,q3,q4,q5,qz,ql⟩,⟨i0,i1,i2,i3,i4,iz,il⟩⟩:=qA.o _ fR;have vV:Fq V7 V7.drew:=fR.drew;clear m8 g6 F7 Cf Gu qu F6 R1 o0 o1 o2 o3 o4 oz ol;refine wp_region_noPanic ?_;refine q8 (fun V=>Fq V7 V) (.rd 0 (.rd 1 (.rd 2 (.rd 3 (.rd 4 (.rd 5 (.op 6 (.rd 7 (.rd 8 (.rd 9 (.rd 10 (.rd 11 .done)))))))))))) kF kF kF (fun _ _ _ _ _ h=>h) vV ?_;iterate 6
    refine oP ?_ ?_ ?_;rotate_left
    .intro V hV;obtain⟨⟨q0,q1,q2,q3,q4,q5,qz,ql⟩,⟨i0,i1,i2,i3,i4,iz,il⟩⟩:=qA.o V hV;go_simp;try with_reducible rfl
   refine rQ fun K hK=>?_;refine (rN _ vV).mono ?_;rintro _ V8 ⟨la,lc,rfl,dJ,F8⟩;have AF:=vV.trans F8 nI;have H8:=hi2 dJ AF;try go_simp
   refine hK _ _ AF ?_;clear hK K dJ F8 AF;iterate 5
    refine oR ?_
   try simp only[Act.put,sI,sZ,sS]
   refine o5 ?_;refine NoPanic.normal ?_;clear vV q0 q1 q2 q3 q4 q5 qz ql i0 i1 i2 i3 i4 iz il;rw[HO.2.2.2.1] at H8 ⊢;obtain⟨⟨q0,q1,q2,q3,q4,q5,qz,ql⟩,⟨i0,i1,i2,i3,i4,iz,il⟩⟩:=qA.o _ H8.2;have sx:=H7.1.J0 H8.2;have Ep:=hid (FY sx.st (H8.1.inp B) (Id dd p1 e1) (by rw[sx.room];omega) sx.free oM);have Sa:=hid sx;clear sx;go_wp2_with fail
   refine Ep.mono ?_;rintro e V9 ⟨pp,ss,err,rfl,F9,hr⟩;have ID:=D0.heap F9 (H8.2.heap H7.2.2.1 id) dC;have Gv:=O0.trans (O0.trans H7.2.1 (O0.none H8.2)) (O0.of F9);have H9:=hi2 ID (aI Gv F9);clear q0 q1 q2 q3 q4 q5 qz ql i0 i1 i2 i3 i4 iz il ID Gv F9;rcases hr with⟨rfl,m1,rfl,rfl,ht,hS⟩|⟨rfl,ha,U0⟩
   .have IR:=Sa.lc0 ht H9.2.2 hS HD.2.2.2.2.2;go_upto_region 11 with fail
    obtain⟨yR,iN⟩:=eX (V9.alloc (.cells #[iI m1,iI y2.gen] 35))
    rw[iN];have F10:Fq V9 yR:=(by rw[<- iN];exact fR.alloc _);have g9:yR.heap[V9.heap.size]?=some (.cells #[iI m1,iI y2.gen] 35):=(by rw[<- iN];exact han V9 _);have mA:=IR.J0 F10;have aY:=(mA.bk _ (lK L (mZ.2 rfl))).1;have Be:=hid (Ok mA (r:=((m1:Int),(y2.gen:Int))) a1 n1 k1 (by rw[HV.2.2.1];have:=Ek.o;have:=iC.1;omega) Bc.2 aY oM);obtain⟨q0,q1,q2,q3,q4,q5,qz,ql⟩:=z7 (F10.heap H9.1 id);obtain⟨y0,y1,yz,yl⟩:=cells2 g9;have AJ:=hi2 F10 (F10.heap H9.1 id);clear IR mA aY iN g9 F10 ht hS;go_wp2_with fail
    refine Be.mono ?_;rintro e Hz ⟨err,rfl,F11,hr⟩;have rC:=O0.trans (O0.trans H9.2.1 (O0.none AJ.1)) (uT F11 fun b hb=>.inl hb);have sk:=yX F11 AJ.2 dC Cr.1;have rE:=hi2 rC (aI sk F11);clear q0 q1 q2 q3 q4 q5 qz ql y0 y1 yz yl rC sk F11;rcases hr with⟨rfl,QV,x11,t11,sq,tV,sD⟩|⟨rfl,ha,U0⟩
    .obtain⟨q0,q1,q2,q3,q4,q5,qz,ql⟩:=z7 rE.2.1;obtain⟨o0,o1,o2,o3,o4,oz,ol⟩:=HB.o Hz rE.1;have P9:x11.depth=g:=tV.trans HV.2.2.1;have Kz:∀ g',(sL a0 e0.length k0).ownBlock=some g'->¬ g'=bd:=fun g' I1 e=>by
      have h1:=(bK HO.1 I1).1;have h2:=H5.2.qS;omega
     have tH:Y3 Hz 0 (sL a0 e0.length k0) e0:=XG (oN (BL (oN (oN (own_base HO.1) (H7.2.2.2.trans H8.2 nI)) fR) dC H9.2.2) AJ.1) dC rE.2.2 Kz;have CM:dd<=g:=(by have:=Ek.o;have:=iC.1;omega);have gO:=hid (EN sq (j:=j) (r:=r) (xV:=xV) (d:=dd) (p:=p0) (by rw[jn (gI.1 HD.2.2.2.1).1];exact HD.2.2.2.1) tH J4.1 (by rw[P9];exact CM) Bc.1 (by
      rw[P9,HV.2.2.1];intro i hi;obtain⟨k1,k2⟩:=jV0 (d:=d) (p:=p) (g:=g) (by have:=iC.1;omega) (by rw[iC.2.1,iC.1];exact hi);rw[iC.2.2.1,iC.1] at k2;rw[oW,if_neg k2];exact HD.2.2.2.2.1 i k1) oM)
     rw[P9,HO.2.2.1] at gO;have eJ:=hi2 P9 sD;clear sq tV P9 sD Kz tH;go_wp2_with fail
     refine gO.mono ?_;rintro e V12 ⟨err,rfl,iw,hr⟩;have Q9:=hi2 iw hr;clear iw hr q0 q1 q2 q3 q4 q5 qz ql o0 o1 o2 o3 o4 oz ol;go_wp2_with fail
     go_ret;refine⟨err,rfl,O0.trans (O0.none HD.2.2.1) (O0.trans rE.1 (uT Q9.1 fun b hb=>.inl hb)),?_⟩;rcases Q9.2 with⟨rfl,m0,QW,x12,t12,su,DA,mC⟩|⟨rfl,ha,U0⟩
     .refine .inl ⟨rfl,m0,m1,QW,x12,t12,?_,DA,(HV.2.2.2.1.trans ((show Like y2 (y2.new m1 (Z6 dd p1 e1)) from⟨rfl,rfl,rfl,rfl,rfl,rfl,rfl⟩).trans eJ.2.1)).trans mC.1,?_,?_⟩
      .obtain⟨l1,l2,l3,l4,l5⟩:=iC.o;have CQ:QV.gen=y.gen:=eJ.2.2.1.trans HV.2.2.2.2.1;rw[CQ,HV.2.2.1,HV.2.2.2.2.1] at su;rw[l1,l3,l2,l4,l5];exact su.mono oM hN
      .exact mC.2.1.trans (eJ.2.2.1.trans HV.2.2.2.2.1)
      .exact mC.2.2.trans (eJ.2.2.2.trans HV.2.2.2.2.2)
     .exact .inr ⟨rfl,ha,fD (U0.mono oM) (HV.2.2.2.1.trans ((show Like y2 (y2.new m1 (Z6 dd p1 e1)) from⟨rfl,rfl,rfl,rfl,rfl,rfl,rfl⟩).trans eJ.2.1))⟩
    .have HX:=hi2 ha U0;clear ha U0;go_wp2_with fail
     go_ret;exact⟨4,rfl,O0.trans (O0.none HD.2.2.1) (rE.1),.inr ⟨rfl,HX.1,fD (HX.2.mono oM) (HV.2.2.2.1.trans (show Like y2 (y2.new m1 (Z6 dd p1 e1)) from⟨rfl,rfl,rfl,rfl,rfl,rfl,rfl⟩))⟩⟩
   .have HX:=hi2 ha U0;clear ha U0;go_wp2_with fail
    go_ret;exact⟨4,rfl,O0.trans (O0.none HD.2.2.1) (O0.trans H9.2.1 (O0.none (fR.alloc _))),.inr ⟨rfl,HX.1,fD ((HX.2.mono oM).J0 (fR.alloc _)) HV.2.2.2.1⟩⟩
  .have HX:=hi2 ha U0;clear ha U0;go_wp2_with fail
   go_ret;exact⟨4,rfl,O0.trans (O0.none (HD.2.2.1.trans FG nI)) (uT H2.1 fun b hb=>.inl hb),.inr ⟨rfl,HX.1,HX.2.mono oM⟩⟩
 .have ku:((d:Int) == (gx:Int))=false:=by simp;omega
  have HDG:=hid fI;clear fI;obtain⟨V,Un⟩:=eX w1.drew
  obtain⟨y2,LA⟩:=eX y
  obtain⟨x2,ce⟩:=eX x
  have HV:=hid (show O0 B (fun b=>b=bd\/b=bx) w1 V/\Y1 V B bx bd y2 P a (N+100) x2 E0 sl' L sp/\x2.depth=g/\Like y y2/\y2.gen=y.gen/\y2.dead=y.dead from by
   have hs:g=gx/\sl'=slots:=by
    rcases Ek.o with h|h
    .exact absurd h.1 HDG.o
    .exact h.2
   rw[<- Un,<- LA,<- ce];exact⟨O0.none FG,by rw[hs.2];exact (HD.2.1.J0 (HD.2.2.1.trans FG nI)).mono oM oM,by rw[hs.1,HD.1],Like.refl y,rfl,rfl⟩)
  rw[Un];clear Un LA ce FG;obtain⟨c0,c1,c2,c3,c4,cz,cl⟩:=cells5 HV.2.1.idx;have Dv:=Bl.o;go_upto_region 6 with fail
  clear Dv;obtain⟨V5,M5⟩:=eX (V.setCell (aA bx 4) (iI (sp+1)))
  have Ce:=HV.2.1.splits (sp+1);have F5:O0 B (fun b=>b=bd\/b=bx) w1 V5:=by rw[<- M5];exact O0.trans HV.1 (Fr.setCell (O0.refl _ _ _) (fun _=>.inr (.inr rfl)) _)
  rw[M5] at Ce;rw[M5];obtain⟨o0,o1,o2,o3,o4,oz,ol⟩:=HB.o V5 F5;have jU:=hid (lU0 (HE.1 V5 F5) (by have:=HE.2.1.1;omega) (fun z hz=>(HE.2.1.2.2 z hz).1.1) d p oM pQ);have H5:=hi2 F5 Ce;rw[HE.2.2] at jU;clear c0 c1 c2 c3 c4 cz cl M5 Ce F5;go_wp2_with fail
  refine jU.mono ?_;rintro e V6 ⟨a0,k0,a1,k1,rfl,zQ,vE,F6⟩;obtain⟨e0,tj⟩:∃ e0,es.filter (fun x=>!ac d x)=e0:=⟨_,rfl⟩
  obtain⟨e1,tm⟩:=eX (es.filter (ac d))
  have dw:=Oe HE.2.1 (by omega:d<20);rw[tj,tm] at dw;rw[tj] at zQ;rw[tm] at vE;rw[tj,tm];obtain⟨dd,hdd⟩:=eX (d+1)
  obtain⟨p1,fM⟩:=eX (2*p+1)
  obtain⟨p0,eB⟩:=eX (2*p)
  have aX:p0<2^dd/\p1<2^dd:=by rw[<- hdd,dB];omega
  rw[fM,eB,hdd] at dw;rw[fM,eB,hdd];obtain⟨n0,lI⟩:=eX e0.length
  obtain⟨n1,ax⟩:=eX e1.length
  have iC:=hi2 hdd (aI eB (aI fM (aI tj tm)));have Bc:=hid aX;have J4:=hid dw;have Vy:n1<=3:=by rw[<- ax];exact dw.2.1
  have UQ:dd<=3:=oM
  have Fs:p1<1048576:=E4 aX.2 (nT (aZ dC (by omega:dd<=20)) dC);rw[lI,ax];have qu:=H5.2.J0 F6;have HO:=hi2 zQ (aI vE (aI lI (aI ax F6.size)));have Gu:=O0.trans H5.1 (O0.none F6);clear hdd eB fM tj tm lI ax zQ vE dw aX;go_upto_region 7 with fail
  obtain⟨V7,m8⟩:=eX (V6.alloc (.cells #[iI dd,iI p0,sL a0 n0 k0,iI dd,iI p1,sL a1 n1 k1] 301))
  rw[m8];obtain⟨b6,R1⟩:=eX V6.heap.size
  rw[R1];have g6:V7.heap[b6]?=some (.cells #[iI dd,iI p0,sL a0 n0 k0,iI dd,iI p1,sL a1 n1 k1] 301):=by rw[<- m8,<- R1];exact han V6 _
  have F7:=fA m8
  have Cf:=qu.J0 F7;have Cr:b6≠bd/\b6≠bx:=by
   have h1:=H5.2.qS;have h2:=F6.size;omega
  have qA:=hid fun V (F:Fq V7 V)=>aI (z7 (F.heap g6 id)) (cells5 (F.heap Cf.idx id));have rN:=hid (fun V (F:Fq V7 V)=>PP (oN (oN (own_base HO.2.1) F7) F) (by rw[HO.2.2.2.1];omega) (fun z hz=>(J4.2.2.2 z hz).1) dd p1 3 oM Fs J4.2.1 dC fun W FW=>OL (oN (oN (oN (own_base HO.2.1) F7) F) FW) J4.2 oM Bc.2);rw[HO.2.2.2.1] at rN;have H7:=hi2 Cf (aI (O0.trans Gu (O0.none F7)) (aI g6 F7));obtain⟨⟨q0,q1,q2,q3,q4,q5,qz,ql⟩,⟨i0,i1,i2,i3,i4,iz,il⟩⟩:=qA.o _ fR;have vV:Fq V7 V7.drew:=fR.drew;clear m8 g6 F7 Cf Gu qu F6 R1 o0 o1 o2 o3 o4 oz ol;refine wp_region_noPanic ?_;refine q8 (fun V=>Fq V7 V) (.rd 0 (.rd 1 (.rd 2 (.rd 3 (.rd 4 (.rd 5 (.op 6 (.rd 7 (.rd 8 (.rd 9 (.rd 10 (.rd 11 .done)))))))))))) kF kF kF (fun _ _ _ _ _ h=>h) vV ?_;iterate 6
   refine oP ?_ ?_ ?_;rotate_left
   .intro V hV;obtain⟨⟨q0,q1,q2,q3,q4,q5,qz,ql⟩,⟨i0,i1,i2,i3,i4,iz,il⟩⟩:=qA.o V hV;go_simp;try with_reducible rfl
  refine rQ fun K hK=>?_;refine (rN _ vV).mono ?_;rintro _ V8 ⟨la,lc,rfl,dJ,F8⟩;have AF:=vV.trans F8 nI;have H8:=hi2 dJ AF;try go_simp
  refine hK _ _ AF ?_;clear hK K dJ F8 AF;iterate 5
   refine oR ?_
  try simp only[Act.put,sI,sZ,sS]
  refine o5 ?_;refine NoPanic.normal ?_;clear vV q0 q1 q2 q3 q4 q5 qz ql i0 i1 i2 i3 i4 iz il;rw[HO.2.2.2.1] at H8 ⊢;obtain⟨⟨q0,q1,q2,q3,q4,q5,qz,ql⟩,⟨i0,i1,i2,i3,i4,iz,il⟩⟩:=qA.o _ H8.2;have sx:=H7.1.J0 H8.2;have Ep:=hid (FY sx.st (H8.1.inp B) (Id dd p1 e1) (by rw[sx.room];omega) sx.free oM);have Sa:=hid sx;clear sx;go_wp2_with fail
  refine Ep.mono ?_;rintro e V9 ⟨pp,ss,err,rfl,F9,hr⟩;have ID:=D0.heap F9 (H8.2.heap H7.2.2.1 id) dC;have Gv:=O0.trans (O0.trans H7.2.1 (O0.none H8.2)) (O0.of F9);have H9:=hi2 ID (aI Gv F9);clear q0 q1 q2 q3 q4 q5 qz ql i0 i1 i2 i3 i4 iz il ID Gv F9;rcases hr with⟨rfl,m1,rfl,rfl,ht,hS⟩|⟨rfl,ha,U0⟩
  .have IR:=Sa.lc0 ht H9.2.2 hS HD.2.2.2.2.2;go_upto_region 11 with fail
   obtain⟨yR,iN⟩:=eX (V9.alloc (.cells #[iI m1,iI y2.gen] 35))
   rw[iN];have F10:=fA iN
   have g9:yR.heap[V9.heap.size]?=some (.cells #[iI m1,iI y2.gen] 35):=by rw[<- iN];exact han V9 _
   have mA:=IR.J0 F10;have aY:=(mA.bk _ (lK L (mZ.2 rfl))).1;have Be:=hid (Ok mA (r:=((m1:Int),(y2.gen:Int))) a1 n1 k1 (by rw[HV.2.2.1];have:=Ek.o;have:=iC.1;omega) Bc.2 aY oM);obtain⟨q0,q1,q2,q3,q4,q5,qz,ql⟩:=z7 (F10.heap H9.1 id);obtain⟨y0,y1,yz,yl⟩:=cells2 g9;have AJ:=hi2 F10 (F10.heap H9.1 id);clear IR mA aY iN g9 F10 ht hS;go_wp2_with fail
   refine Be.mono ?_;rintro e Hz ⟨err,rfl,F11,hr⟩;have rC:=O0.trans (O0.trans H9.2.1 (O0.none AJ.1)) (uT F11 fun b hb=>.inl hb);have sk:=yX F11 AJ.2 dC Cr.1;have rE:=hi2 rC (aI sk F11);clear q0 q1 q2 q3 q4 q5 qz ql y0 y1 yz yl rC sk F11;rcases hr with⟨rfl,QV,x11,t11,sq,tV,sD⟩|⟨rfl,ha,U0⟩
   .obtain⟨q0,q1,q2,q3,q4,q5,qz,ql⟩:=z7 rE.2.1;obtain⟨o0,o1,o2,o3,o4,oz,ol⟩:=HB.o Hz rE.1;have P9:x11.depth=g:=tV.trans HV.2.2.1;have Kz:∀ g',(sL a0 e0.length k0).ownBlock=some g'->¬ g'=bd:=fun g' I1 e=>by
     have h1:=(bK HO.1 I1).1;have h2:=H5.2.qS;omega
    have tH:Y3 Hz 0 (sL a0 e0.length k0) e0:=XG (oN (BL (oN (oN (own_base HO.1) (H7.2.2.2.trans H8.2 nI)) fR) dC H9.2.2) AJ.1) dC rE.2.2 Kz;have CM:dd<=g:=(by have:=Ek.o;have:=iC.1;omega);have gO:=hid (EN sq (j:=j) (r:=r) (xV:=xV) (d:=dd) (p:=p0) (by rw[jn (gI.1 HD.2.2.2.1).1];exact HD.2.2.2.1) tH J4.1 (by rw[P9];exact CM) Bc.1 (by
     rw[P9,HV.2.2.1];intro i hi;obtain⟨k1,k2⟩:=jV0 (d:=d) (p:=p) (g:=g) (by have:=iC.1;omega) (by rw[iC.2.1,iC.1];exact hi);rw[iC.2.2.1,iC.1] at k2;rw[oW,if_neg k2];exact HD.2.2.2.2.1 i k1) oM)
    rw[P9,HO.2.2.1] at gO;have eJ:=hi2 P9 sD;clear sq tV P9 sD Kz tH;go_wp2_with fail
    refine gO.mono ?_;rintro e V12 ⟨err,rfl,iw,hr⟩;have Q9:=hi2 iw hr;clear iw hr q0 q1 q2 q3 q4 q5 qz ql o0 o1 o2 o3 o4 oz ol;go_wp2_with fail
    go_ret;refine⟨err,rfl,O0.trans (O0.none HD.2.2.1) (O0.trans rE.1 (uT Q9.1 fun b hb=>.inl hb)),?_⟩;rcases Q9.2 with⟨rfl,m0,QW,x12,t12,su,DA,mC⟩|⟨rfl,ha,U0⟩
    .refine .inl ⟨rfl,m0,m1,QW,x12,t12,?_,DA,(HV.2.2.2.1.trans ((show Like y2 (y2.new m1 (Z6 dd p1 e1)) from⟨rfl,rfl,rfl,rfl,rfl,rfl,rfl⟩).trans eJ.2.1)).trans mC.1,?_,?_⟩
     .obtain⟨l1,l2,l3,l4,l5⟩:=iC.o;have CQ:QV.gen=y.gen:=eJ.2.2.1.trans HV.2.2.2.2.1;rw[CQ,HV.2.2.1,HV.2.2.2.2.1] at su;rw[l1,l3,l2,l4,l5];exact su.mono oM hN
     .exact mC.2.1.trans (eJ.2.2.1.trans HV.2.2.2.2.1)
     .exact mC.2.2.trans (eJ.2.2.2.trans HV.2.2.2.2.2)
    .exact .inr ⟨rfl,ha,fD (U0.mono oM) (HV.2.2.2.1.trans ((show Like y2 (y2.new m1 (Z6 dd p1 e1)) from⟨rfl,rfl,rfl,rfl,rfl,rfl,rfl⟩).trans eJ.2.1))⟩
   .have HX:=hi2 ha U0;clear ha U0;go_wp2_with fail
    go_ret;exact⟨4,rfl,O0.trans (O0.none HD.2.2.1) (rE.1),.inr ⟨rfl,HX.1,fD (HX.2.mono oM) (HV.2.2.2.1.trans (show Like y2 (y2.new m1 (Z6 dd p1 e1)) from⟨rfl,rfl,rfl,rfl,rfl,rfl,rfl⟩))⟩⟩
  .have HX:=hi2 ha U0;clear ha U0;go_wp2_with fail
   go_ret;exact⟨4,rfl,O0.trans (O0.none HD.2.2.1) (O0.trans H9.2.1 (O0.none (fR.alloc _))),.inr ⟨rfl,HX.1,fD ((HX.2.mono oM).J0 (fR.alloc _)) HV.2.2.2.1⟩⟩
end
section
open Go.RowKit Go.Sg CP SF
structure Ag (t:Tr)(g:Nat)(L:List Bp)(k d p:Nat)(r:Rf)(es:List Bt):Prop where
 at_:t.at_ g k 0 0=(d,p,r,es)
 kl:k<2^g
 dg:d<=g
 pl:p<2^d
 ok:S8 d p es
 slot:(t.slots g)[k]?=some r
 mem:(r,Z6 d p es) ∈ L
 lo:t.lo g k=p*2^(g-d)
 wd:t.wd g k=g-d
variable {t:Tr}{N bd bx d g j k p:Nat}{L:List Bp}{V:w9}{a:Bool}{sp:Int}
def Qx (hk:k<2^g)(hh:t.high<=g)(hok:ee t 0 0)(hP:L.Perm (aj t 0 0)):∃ d p r es,Ag t g L k d p r es:=by
 obtain⟨⟨d,p,r,es⟩,hz⟩:∃ z,t.at_ g k 0 0=z:=⟨_,rfl⟩
 have h1:=Tr.BH t g k 0 0;have h2:=Tr.OE t g k 0 0 hh;have h3:=Tr.QN t g k 0 0 hh;have h4:=Tr.Ma t g k 0 0 hh hk;have h5:=Gb t g k 0 0 hok;have h6:=Tr.OG t g k 0 0 hh hk;obtain⟨A,C,hA⟩:=Mj t g k 0 0;have h7:=hA Tr.leaf;rw[BD] at h7;rw[hz] at h1 h2 h3 h4 h5 h6 h7;simp only at h1 h2 h3 h4 h5 h6 h7;have hwd:t.wd g k=g-d:=oM
 refine⟨d,p,r,es,hz,hk,oM,?_,h5,h6,?_,?_,hwd⟩
 .rw[h4,uk,o8,o8];refine Nat.div_lt_of_lt_mul ?_;rw[<- Aq,show g-d+d=g by omega];exact hk
 .rw[hP.mem_iff,h7];simp[aj]
 .rw[<- hwd,<- h3];simp
variable {B:P0}{y':Cs}{P:J2}{x':P1}{Y7:List Rf}{r:Rf}{es:List Bt}
def OA {r':Rf}{es':List Bt}(hb:Ag t g L k d p r es)(hh:t.high=g)(hok:ee t 0 0)(hP:L.Perm (aj t 0 0))(hj:L[j]?=some (r,Z6 d p es))(A5:S8 d p es')(hx:x'.depth=g)
  (hI:Y1 V B bx bd y' P a N x' Y7 (R4 (t.slots g) (fS (p*2^(g-d)) (2^(g-d))) r') (L.set j (r',Z6 d p es')) sp):bR V B bx bd y' P a N x' (t.put g k fun _ _=>.leaf r' es') sp:=by
 have hs:=jD0 (t:=t) (g:=g) (k:=k) oM hb.kl r' (fun _ _=>.leaf r' es') fun _ _=>⟨es',rfl⟩;rw[hb.lo,hb.wd] at hs;obtain⟨A,C,hA⟩:=Mj t g k 0 0;have h7:=hA Tr.leaf;rw[BD] at h7;have h8:=hA fun _ _=>.leaf r' es';rw[hb.at_] at h7 h8;simp only[aj,Mc] at h7 h8;rw[hs] at hI;refine⟨⟨Y7,_,by rw[hx];exact hI,?_⟩,by rw[Oc _ fun _ _=>rfl,hh,hx],Mi _ t g k 0 0 hok ?_⟩
 .rw[h8];rw[h7] at hP;exact set_perm hP hj
 .rw[hb.at_];exact A5
def qw0 {α:Type}{L M:List α}{j:Nat}{q:α}(h:j<L.length):(L++M).set j q=L.set j q++M:=List.set_append_left _ _ h
def tu0 {r0 r1:Rf}{e0 e1:List Bt}(hb:Ag t g L k d p r es)(hd:d<g)(hh:max t.high (d+1)=g)(hok:ee t 0 0)(hP:L.Perm (aj t 0 0))(hj:L[j]?=some (r,Z6 d p es))(iX:S8 (d+1) (2*p) e0)(Pz:S8 (d+1) (2*p+1) e1)(hx:x'.depth=g)
  (hI:Y1 V B bx bd y' P a N x' Y7 (R4 (R4 (t.slots g) (fS ((2*p+1)*2^(g-(d+1))) (2^(g-(d+1)))) r1) (fS (2*p*2^(g-(d+1))) (2^(g-(d+1)))) r0) ((L++[(r1,Z6 (d+1) (2*p+1) e1)]).set j (r0,Z6 (d+1) (2*p) e0)) sp):bR V B bx bd y' P a N x' (t.put g k fun _ _=>.node (.leaf r0 e0) (.leaf r1 e1)) sp:=by
 have hs:=ri0 (t:=t) (g:=g) (k:=k) oM hb.kl (by rw[hb.wd];omega) r0 r1 (fun _ _=>.node (.leaf r0 e0) (.leaf r1 e1)) fun _ _=>⟨e0,e1,rfl⟩;rw[hb.lo,hb.wd] at hs;have e1':g-d-1=g-(d+1):=oM
 have e2:2^(g-d)=2*2^(g-(d+1)):=by rw[show g-d=g-(d+1)+1 by omega,dB];omega
 have e3:p*2^(g-d)=2*p*2^(g-(d+1)):=by rw[e2,<- DM,dU p 2]
 rw[e1',e3,<- show (2*p+1)*2^(g-(d+1))=2*p*2^(g-(d+1))+2^(g-(d+1)) by rw[DU,Nat.one_mul]] at hs;obtain⟨A,C,hA⟩:=Mj t g k 0 0;have h7:=hA Tr.leaf;rw[BD] at h7;have h8:=hA fun _ _=>.node (.leaf r0 e0) (.leaf r1 e1);have h9:=OB (fun _ _=>.node (.leaf r0 e0) (.leaf r1 e1)) (fun _ _=>rfl) t g k 0 0;rw[hb.at_] at h7 h8 h9;simp only[aj,Mc,ak,C7] at h7 h8;simp only[Nat.sub_zero] at h9;have hjl:=(gI.1 hj).1;rw[hs] at hI;refine⟨⟨Y7,_,by rw[hx];exact hI,?_⟩,by rw[h9,hh,hx],Mi _ t g k 0 0 hok ?_⟩
 .rw[h8,qw0 hjl];rw[h7] at hP;have hs:=set_perm (q':=(r0,Z6 (d+1) (2*p) e0)) hP hj;refine (List.Perm.append_right _ hs).trans ?_;rw[dD];refine List.Perm.append_left A ?_;rw[ak];exact (List.Perm.cons _ List.perm_append_comm)
 .rw[hb.at_];exact⟨iX,Pz⟩
def yU0 (hb:Ag t g L k d p r es)(hh:t.high<=g)(hok:ee t 0 0)(hP:L.Perm (aj t 0 0)):Ag t (g+1) L (2*k) d p r es:=by
 have hk:2*k<2^(g+1):=by have:=hb.kl;rw[dB];omega
 obtain⟨d',p',r',es',h⟩:=Qx hk (by omega:t.high<=g+1) hok hP;have h1:=h.at_;rw[Yj t g k 0 0 hh,hb.at_] at h1;cases h1;exact h
def rj0 (t:Tr)(g:Nat)(hh:t.high<=g):ep (t.slots g)=t.slots (g+1):=(Tr.Wv t g hh).symm
def IZ (hb:Ag t g L k d p r es)(hh:t.high<=g):∀ i ∈ fS (p*2^(g-d)) (2^(g-d)),(t.slots g)[i]?=some r:=by
 intro i hi;rw[LM] at hi;obtain⟨h1,h2,h3⟩:=Tr.lo_le t g k hh hb.kl;simp only[hb.lo,hb.wd] at h1 h2 h3;have h4:=Tr.uW0 t g k i hh hb.kl (by rw[hb.lo];exact hi.1) (by rw[hb.lo,hb.wd];exact hi.2);rw[Tr.OG t g i 0 0 hh oM,h4,hb.at_]
end
section
open Go.RowKit Go.Sg Go.Sg.Bits Go.Sg.r4 CP SF
def Qd (W:w9)(b:Nat)(u0 u1 u2:Value):Fr (fun k=>k=b) W (((W.setCell (aA b 2) u0).setCell (aA b 3) u1).setCell (aA b 4) u2):=
 (((Fr.refl (fun k=>k=b) W).setCell (a:=⟨b,_,none⟩) (fun _=>rfl) _).setCell (a:=⟨b,_,none⟩) (fun _=>rfl) _).setCell (a:=⟨b,_,none⟩) (fun _=>rfl) _
variable {N b bd bx d f g n p:Nat}{X:Nat->Prop}{V V' w w1:w9}{oldest sp:Int}{a:Bool}{v:Value}
def Ot {W:w9}{x0 x1 x2 x3 x4:Value}{t:TypeId}(h:W.heap[b]?=some (.cells #[x0,x1,x2,x3,x4] t))(u0 u1 u2:Value):(((W.setCell (aA b 2) u0).setCell (aA b 3) u1).setCell (aA b 4) u2).heap[b]?=some (.cells #[x0,x1,u0,u1,u2] t):=by
 rw[hsc _ _ _ _ (hsc _ _ _ _ (hsc _ _ _ _ h))];rfl
variable {B:P0}
def O0.new (h:O0 B X w V)(F:Fr (fun k=>k=b) V V')(hb:w<=b):O0 B X w V':=Fr.trans h F fun k hk e=>by omega
def O0.newS {S:Nat->Prop}(h:O0 B X w V)(F:Fr S V V')(hb:∀ b,S b->w.heap.size<=b):O0 B X w V':=Fr.trans h F fun k hk e=>by have:=hb k e;omega
def rZ (f:Rf->List Bt->Tr)(m:Nat)(hf:∀ r es,(f r es).refs.length=m):∀ (t:Tr) (g k:Nat),(t.put g k f).refs.length+1=t.refs.length+m
 | .leaf r es,g,k=>by simp only[Tr.put,Tr.refs,hf];simp;omega
 | .node l r,g,k=>by
  simp only[Tr.put];split
  .have:=rZ f m hf l (g-1) k;simp only[Tr.refs,lA];omega
  .have:=rZ f m hf r (g-1) (k-2^(g-1));simp only[Tr.refs,lA];omega
variable {t:Tr}{E:Bt}{r:Rf}{es:List Bt}
def zQ0 {k:Nat}(G4:t.at_ g k 0 0=(d,p,r,es))(hk:X0 E.hash g=k):eo (f+1) (bare t) g sp E oldest =
  if cy (aL es E.hash oldest) E.hash 3=true then ⟨(bare t).put g k (tY (r5 (aL es E.hash oldest) E)),g,sp,false⟩
  else if d<3 then (if d=g then eo f ((bare t).put (g+1) (2*k) (jZ d (aL es E.hash oldest))) (g+1) (sp+1) E oldest else eo f ((bare t).put g k (jZ d (aL es E.hash oldest))) g (sp+1) E oldest)
  else ⟨(bare t).put g k (tY (r5 ((aL es E.hash oldest).eraseIdx (jx (aL es E.hash oldest) (aL es E.hash oldest).length).toNat) E)),g,sp,true⟩:=by
 subst hk;simp only[eo,Jd,G4]
def Ey0 (B:P0)(bx bd:Nat)(y:Cs)(P:J2)(a:Bool)(N:Nat)(rl:Nat)(R:wV)(w:w9)(e:Ending)(w':w9):Prop:=
 ∃ (lost:Bool) (err:Int),e = rT (tU #[bO lost,iI err])/\O0 B (fun b=>b=bd\/b=bx) w w' /\
  ((err=0/\lost=R.lost/\∃ (y':Cs) (x':P1) (t':Tr) (N':Nat),bR w' B bx bd y' P a N' x' t' R.sp/\N'+150*rl<=N+30+150*t'.refs.length/\bare t'=R.t/\x'.depth=R.g/\(Like y y'/\y'.gen=y.gen/\y'.dead=y.dead))\/(err=4/\a=true/\C5 w' B y P (N+1300)))
structure Eb (w1:w9)(B:P0)(bx bd:Nat)(y0:Cs)(P:J2)(a:Bool)(N rl:Nat)(E:Bt)(oldest:Int)(R:wV)(f:Nat)(V:w9):Prop where
 ex:∃ (y:Cs) (x:P1) (E0:List Rf) (t:Tr) (L:List Bp) (sp:Int) (N1:Nat),Y1 V B bx bd y P a N1 x E0 (t.slots x.depth) L sp/\(L.Perm (aj t 0 0)/\t.high=x.depth/\ee t 0 0/\Like y0 y)/\(y.gen=y0.gen/\y.dead=y0.dead)/\eo f (bare t) x.depth sp E oldest=R/\(8-t.refs.length<f/\N1+150*rl<=N+150*t.refs.length/\1<=rl)/\(0<=sp/\sp+f<=100000)/\O0 B (fun b=>b=bd\/b=bx) w1 V
variable {y y0:Cs}{P:J2}
def Eb.J0 {rl:Nat}{R:wV}(h:Eb w1 B bx bd y0 P a N rl E oldest R f V)(F:Fq V V'):Eb w1 B bx bd y0 P a N rl E oldest R f V':=by
 obtain⟨y,x,E0,t,L,sp,N1,hM,h2,h3,h4,h5,h6,h7⟩:=h.ex;exact⟨y,x,E0,t,L,sp,N1,hM.J0 F,h2,h3,h4,h5,h6,O0.trans h7 (O0.none F)⟩
def WM:∀ t:Tr,1<=t.refs.length
 | .leaf _ _=>by simp[Tr.refs]
 | .node l r=>by have:=WM l;simp only[Tr.refs,lA];omega
def vQ0 (h:es≠[]):∃ i:Nat,jx es es.length=(i:Int)/\i<es.length:=by
 obtain⟨n,hn⟩:∃ n,es.length=n+1:=⟨es.length-1,by have:=List.length_pos_iff.2 h;omega⟩
 rw[hn];exact⟨vS es n,rfl,by have:=PW es n;omega⟩
variable {x:P1}{slots E0:List Rf}{L:List Bp}
def Y1.turn {base:Nat}(h:Y1 V B bx bd y P a N x E0 slots L sp)(hE:Y3 V base v es)(F:Fr (fun b=>v.ownBlock=some b) V V')(hb:0<base):Y1 V' B bx bd y P a N x E0 slots L sp:=by
 obtain⟨_,⟨h0,_⟩|⟨g,cap,cur,hv,zK,hg,_⟩⟩:=hE
 .exact h.J0 (F.mono fun b _ e=>by rw[h0] at e;cases e)
 .exact h.U2 (F.mono fun b _ e=>by rw[hv] at e;exact (Option.some.inj e).symm) hg dC oM
def PS (w1:w9)(B:P0)(bx bd:Nat)(y:Cs)(P:J2)(a:Bool)(N:Nat)(x:P1)(E0 slots:List Rf)(L:List Bp)(sp:Int)(b8:Nat)(r:Rf)(d p:Nat)(va:Option Addr)(n vc:Nat)(es:List Bt)(V:w9):Prop:=
 Y1 V B bx bd y P a N x E0 slots L sp/\V.heap[b8]?=some (.cells #[iI r.1,iI r.2,iI d,iI p,sL va n vc] 131)/\Y3 V 0 (sL va es.length vc) es/\O0 B (fun b=>b=bd\/b=bx) w1 V/\es.length=n
def BY0 {b' e size:Nat}{xs:List Value}(h:w.ownsRow b e size v n xs)(hb:∀ g,v.ownBlock=some g->b'<=g):w.ownsRow b' e size v n xs:=by
 obtain⟨hl,h0|⟨g,cap,cur,hv,zK,r⟩⟩:=h
 .exact⟨hl,.inl h0⟩
 .exact⟨hl,.inr ⟨g,cap,cur,hv,hb g (by rw[hv];rfl),r⟩⟩
def PS.J0 {b8:Nat}{va:Option Addr}{vc:Nat}(h:PS w1 B bx bd y P a N x E0 slots L sp b8 r d p va n vc es V)(F:Fq V V'):PS w1 B bx bd y P a N x E0 slots L sp b8 r d p va n vc es V':=
 ⟨h.1.J0 F,F.heap h.2.1 id,oN h.2.2.1 F,O0.trans h.2.2.2.1 (O0.none F),h.2.2.2.2⟩
def pB0 (hh:E.hash<18446744073709551616)(w:w9):cP 129 #[E8 E] w (bt (bO (ab E)) w):=by
 refine uD0 E (ab E) w fun W g hg _ _=>?_;have ho:Y3 W 0 (sL g 1 1) [E]:=Oy (es:=[E]) (c:=1) (C3 _) hg (nR _) dC rfl rfl;have:=WI ho (List.pairwise_singleton _ _) 0 0 1 dC dC dC dC (nR _) (fun x hx=>by simp at hx;subst hx;exact hh);have e:(!([E].any (uV 0 0)))=ab E:=by simp[uV,Iw]
 rw[e] at this;exact this
def rn0 (h:tZ E):ab E=true:=by
 obtain⟨_,h1,h2,h3⟩:=h;simp[ab];omega
def Yw {h:Nat}(hh:h<18446744073709551616):∀ (n d:Nat),d+n<=20->X0 h (d+n)/2^n=X0 h d
 | 0,d,_=>by simp
 | n+1,d,hd=>by
  rw[dB,dU,<- Ak,show d+(n+1)=(d+n)+1 by omega,Iy oM hh];exact Yw hh n d oM
def yT0 {h:Nat}(hb:Ag t g L (X0 h g) d p r es)(hh:h<18446744073709551616)(hg:g<=20)(hi:t.high<=g):X0 h d=p:=by
 have h4:=Tr.Ma t g (X0 h g) 0 0 hi hb.kl;rw[hb.at_] at h4;simp only[uk,o8] at h4;have h5:=Yw hh (g-d) d (by have:=hb.dg;omega);rw[show d+(g-d)=g by have:=hb.dg;omega] at h5;rw[<- h5,h4]
def uA0 {P:D4}{x0:P1}{t0:Tr}{sp0:Int}(h:bR w B bx bd y0 P a N x0 t0 sp0)(E:Bt)(oldest:Int)(hE:tZ E)(pV:0<=sp0/\sp0+8<=100000)(hN:N+1300<=90000) :
  cP 64 #[O7 bx,E8 E,iI oldest] w (Ey0 B bx bd y0 P a N t0.refs.length (eo 8 (bare t0) x0.depth sp0 E oldest) w):=by
 obtain⟨Ar,L0,Uh,hP0⟩:=h.ex;have pF:=Uh.qS;have Dr:1<=t0.refs.length:=WM t0;have VO:t0.refs.length<=8:=by
  have h1:=BK t0;have h2:=h.depth;rw[h.high] at h1;exact nT h1 (aZ dC h2:2^x0.depth<=2^3)
 obtain⟨w1,I0⟩:=eX (w.alloc (.cells #[iU E.hash,iI E.rg,iI E.at_,iI E.sz] 118))
 have b4:=fB I0
 have F1:=fA I0
 have T5:=hid fun (V:w9) (F:O0 B (fun b=>b=bd\/b=bx) w1 V)=>D8 (yX F b4 dC fun e=>oM);have ZM:=hid (show cP 129 #[E8 E] w1 (bt (bO true) w1) by have:=pB0 hE.1 w1;rw[rn0 hE] at this;exact this);obtain⟨R,hR⟩:=eX (eo 8 (bare t0) x0.depth sp0 E oldest)
 rw[hR];have uI:=hid (show Eb w1 B bx bd y0 P a N t0.refs.length E oldest R 8 w1 from⟨y0,x0,Ar,t0,L0,sp0,N,Uh.J0 F1,⟨hP0,h.high,h.ok,Like.refl y0⟩,⟨rfl,rfl⟩,hR,⟨oM,nR _,Dr⟩,⟨pV.1,oM⟩,O0.refl _ _ _⟩);have HE:=hid hE;have E1:=hid F1;have E3:w1.heap.size=w.heap.size+1:=by rw[<- I0];simp
 have jR:=hid E3;obtain⟨rl,KZ⟩:=eX t0.refs.length
 rw[KZ] at uI VO ⊢;have HW:=hid I0;have MY:=hid pF;obtain⟨t0',t1',t2',bB,bC,tl'⟩:=T5.o w1 (O0.refl _ _ _);clear h Uh hP0 hR hE I0 b4 F1 E3 KZ pV pF Dr;go_enter func64,ntmps64;go_upto_region 1 with fail
 rw[HW];go_step3
 go_wp2_with fail
 refine ZM.mono ?_;rintro e V0 ⟨rfl,F0⟩;have HI1:=hid (show Eb w1 B bx bd y0 P a N rl E oldest R 8 V0 from uI.J0 F0);clear F0 t0' t1' t2' bB bC tl' ZM uI;go_wp2_with fail
 go_step3
 go_wp2_with fail
 go_loopg [6] 8 fun k v6 wr=>v6 = bO false/\Eb w1 B bx bd y0 P a N rl E oldest R k wr
 case atStart=>exact⟨rfl,HI1.o⟩
 case round =>
  obtain⟨rfl,hI⟩:=hrel;obtain⟨y,x,E0,t,L,sp,N1,hM,⟨Uk,hh,hok,hlk⟩,hyg,aD,⟨oh,hNr,KY⟩,⟨pV,Lg⟩,hF⟩:=hI.ex;have bU:=hM.small.2.2;have lG:X0 E.hash x.depth<2^x.depth:=LI oM HE.1;have hr8:t.refs.length<=8:=by
   have h1:=BK t;rw[hh] at h1;exact nT h1 (aZ dC bU:2^x.depth<=2^3)
  obtain⟨d,p,r,es,hb⟩:=Qx lG (N6 hh) hok Uk;have fI:=hb.dg;have gr:=hb.pl;have hN1:N1+240<=90000:=oM
  obtain⟨j,hj⟩:=ou.1 hb.mem;have aX:X0 E.hash d=p:=yT0 hb HE.1 oM (N6 hh);have rM:=hid (YB hM HE.1 hb.slot hb.mem hb.ok oM gr oM);obtain⟨t0',t1',t2',bB,bC,tl'⟩:=T5.o wr hF;have HT:=hi2 hok (aI hh (aI Uk hlk));have HG:=hid hyg;have Et:=hid aD;have kR:=hi2 oh (aI hNr (aI KY (aI pV (aI Lg (aI hr8 hN1)))));have J4:=hi2 hb (aI hb.ok aX);have HJ:=hid hj;have HD:=hi2 bU (aI fI gr);have HF:=hid hF;clear hok hh Uk hlk hyg aD oh hNr KY pV Lg hr8 hN1 hb aX hj bU fI gr hF hM lG hI;go_wp2_with fail
  refine rM.mono ?_;rintro e V1 ⟨r1,d1,p1,va,n,vc,err,rfl,F1,hr⟩;have bF:=hi2 F1 hr;clear F1 hr rM t0' t1' t2' bB bC tl';obtain⟨b8,dJ⟩:=eX V1.heap.size
  have H8:=hid (show 0<b8/\w1.heap.size<=b8 by
   have h1:=HF.size;have h2:=bF.1.size;have h3:=jR.o;omega)
  obtain⟨f,rfl⟩:∃ f,gk=f+1:=⟨gk-1,by have:=kR.1;omega⟩
  have Np:=hid (zQ0 (f:=f) (sp:=sp) (E:=E) (oldest:=oldest) J4.1.at_ rfl);go_upto_region 6 with fail
  obtain⟨V2,K5⟩:=eX (V1.alloc (.cells #[iI r1.1,iI r1.2,iI d1,iI p1,sL va n vc] 131))
  rw[K5];have FV:=fA K5
  have g8:V2.heap[b8]?=some (.cells #[iI r1.1,iI r1.2,iI d1,iI p1,sL va n vc] 131):=by rw[<- K5,<- dJ];exact han _ _
  have oO:=hid FV;have AV:=hid g8;clear dJ K5 FV g8;rcases bF.2 with⟨rfl,⟨rfl,rfl,rfl,hn⟩,ho,hM⟩|⟨rfl,ha,U0⟩
  rotate_left
  .have HX:=hi2 ha (U0.J0 oO.o);clear ha U0;go_wp2_with fail
   go_ret2;exact⟨false,4,rfl,O0.trans (O0.none E1.o) (O0.trans HF.o (O0.trans (O0.of bF.1) (O0.none oO.o))),.inr ⟨rfl,HX.1,fD (HX.2.mono (by have:=kR.o;omega)) HT.2.2.2⟩⟩
  have r7:=hid (show PS w1 B bx bd y P a (N1+3) x E0 (t.slots x.depth) L sp b8 r1 d p va n vc es V2 from⟨hM.J0 oO.o,AV.o,oN (own_base ho) oO.o,O0.trans HF.o (O0.trans (O0.of bF.1) (O0.none oO.o)),hn.symm⟩);clear ho hM hn AV;cases hro:cy es E.hash 3 with
  | true =>
   have yJ:=hid hro;have Y5:=hid (show (⟨(bare t).put x.depth (X0 E.hash x.depth) (tY (r5 es E)),x.depth,sp,false⟩:wV)=R by
    rw[<- Et,Np];unfold aL;rw[if_pos yJ.o,if_pos yJ.o])
   clear hro;obtain⟨q0,q1,q2,q3,q4,qz,ql⟩:=cells5 r7.2.1;obtain⟨t0',t1',t2',bB,bC,tl'⟩:=T5.o V2 r7.2.2.2.1;have iD:=hid (Ip r7.1.idx r7.2.2.1 J4.2.1.2.1 (by have:=J4.2.1.1;omega) d p E.hash);rw[r7.2.2.2.2,yJ] at iD;go_wp2_with fail
   refine iD.mono ?_;rintro e V3 ⟨rfl,FR⟩;have L7:=hid (show PS w1 B bx bd y P a (N1+3) x E0 (t.slots x.depth) L sp b8 r1 d p va n vc es V3 from⟨r7.1.J0 FR,FR.heap r7.2.1 id,oN r7.2.2.1 FR,O0.trans r7.2.2.2.1 (O0.none FR),r7.2.2.2.2⟩);clear FR q0 q1 q2 q3 q4 qz ql t0' t1' t2' bB bC tl' iD;obtain⟨q0,q1,q2,q3,q4,qz,ql⟩:=cells5 L7.2.1;obtain⟨t0',t1',t2',bB,bC,tl'⟩:=T5.o V3 L7.2.2.2.1;have iD:=hid (Ip L7.1.idx L7.2.2.1 J4.2.1.2.1 (by have:=J4.2.1.1;omega) d p E.hash);rw[L7.2.2.2.2,yJ] at iD;go_wp2_with fail
   refine iD.mono ?_;rintro e V4 ⟨rfl,FR⟩;have t7:=hid (show PS w1 B bx bd y P a (N1+3) x E0 (t.slots x.depth) L sp b8 r1 d p va n vc es V4 from⟨L7.1.J0 FR,FR.heap L7.2.1 id,oN L7.2.2.1 FR,O0.trans L7.2.2.2.1 (O0.none FR),L7.2.2.2.2⟩);clear FR q0 q1 q2 q3 q4 qz ql t0' t1' t2' bB bC tl' iD;obtain⟨q0,q1,q2,q3,q4,qz,ql⟩:=cells5 t7.2.1;obtain⟨t0',t1',t2',bB,bC,tl'⟩:=T5.o V4 t7.2.2.2.1;have gQ:=hid (XP t7.2.2.1 J4.2.1.2.1 (by have:=J4.2.1.1;omega) d p E);rw[t7.2.2.2.2] at gQ;go_wp2_with fail
   refine gQ.mono ?_;rintro e VP ⟨ap,cp,rfl,hop,FP⟩;have sy:=t7.1.J0 FP;have mz:=FP.heap t7.2.1 id;have rD:=O0.trans t7.2.2.2.1 (O0.none FP);have zN:=Yt J4.2.1 yJ.o HE.o J4.2.2;obtain⟨np,tG⟩:=eX ((r5 es E).length)
   have Ba:=hid tG;rw[tG];clear q0 q1 q2 q3 q4 qz ql t0' t1' t2' bB bC tl' gQ tG;have am:=hi2 sy (aI hop (aI rD zN));have fv:=hid mz;obtain⟨q0,q1,q2,q3,q4,qz,ql⟩:=cells5 mz;clear sy hop rD zN mz FP;go_upto_region 19 with fail
   obtain⟨VQ,iO⟩:=eX (((VP.setCell (aA b8 2) (iI d)).setCell (aA b8 3) (iI p)).setCell (aA b8 4) (sL ap np cp))
   rw[iO];have FQ:Fr (fun k=>k=b8) VP VQ:=by rw[<- iO];exact Qd VP b8 _ _ _
   have nO:VQ.heap[b8]?=some (.cells #[iI r1.1,iI r1.2,iI d,iI p,sL ap np cp] 131):=by rw[<- iO];exact Ot fv.o _ _ _
   have zt:=am.1.U2 FQ fv.o dC H8.1;have oc:Y3 VQ 0 (.slice ap (r5 es E).length cp) _:=bi (own_base am.2.1) FQ (fun g hg e=>by
    obtain⟨_,c,hc⟩:=O6 am.2.1 (show some g=_ from hg.symm);rw[e,fv] at hc;cases hc)
   have yA:=O0.new am.2.2.1 FQ H8.2;have gO:=hid (EN zt (j:=j) HJ.o oc am.2.2.2 HD.2.1 HD.2.2 (IZ J4.1 (N6 HT.2.1)) (by have:=kR.2.2.2.2.2.2;omega));rw[Ba] at gO;have HQ:=hid yA;clear q0 q1 q2 q3 q4 qz ql iO FQ zt oc yA;obtain⟨q0,q1,q2,q3,q4,qz,ql⟩:=cells5 nO;go_wp2_with fail
   refine gO.mono ?_;rintro e VR ⟨err,rfl,FR,hr⟩;have HR:=hi2 FR hr;clear FR hr q0 q1 q2 q3 q4 qz ql nO gO;go_wp2_with fail
   go_ret2;refine⟨false,err,rfl,O0.trans (O0.none E1.o) (O0.trans HQ.o (uT HR.1 fun b hb=>.inl hb)),?_⟩;rcases HR.2 with⟨rfl,m,y',x',t',hI',C6,lk⟩|⟨rfl,ha,U0⟩
   .refine .inl ⟨rfl,by rw[<- Y5],y',x',t.put x.depth (X0 E.hash x.depth) fun _ _=>.leaf (↑m,↑y.gen) (r5 es E),N1+3+20,?_,?_,?_,?_,HT.2.2.2.trans lk.1,lk.2.1.trans HG.1,lk.2.2.trans HG.2⟩
    .rw[<- Y5];exact OA J4.1 HT.2.1 HT.1 HT.2.2.1 HJ.o am.2.2.2 C6 hI'
    .have h1:(t.put x.depth (X0 E.hash x.depth) fun _ _=>.leaf (↑m,↑y.gen) (r5 es E)).refs.length=t.refs.length:=Md (rZ (fun _ _=>.leaf (↑m,↑y.gen) (r5 es E)) 1 (fun _ _=>rfl) t x.depth (X0 E.hash x.depth));have h2:=kR.2.1;omega
    .rw[<- Y5];exact BG _ _ (fun _ _=>rfl) t x.depth _
    .rw[<- Y5];exact C6
   .exact .inr ⟨rfl,ha,fD (U0.mono (by have:=kR.o;omega)) HT.2.2.2⟩
  | false =>
   have yJ:=hid hro;have RU:=hid (show aL es E.hash oldest=es.filter (U4 oldest) by unfold aL;rw[yJ];rfl);have gN:=hid (EI J4.2.1 (U4 oldest));clear hro;obtain⟨q0,q1,q2,q3,q4,qz,ql⟩:=cells5 r7.2.1;obtain⟨t0',t1',t2',bB,bC,tl'⟩:=T5.o V2 r7.2.2.2.1;have iD:=hid (Ip r7.1.idx r7.2.2.1 J4.2.1.2.1 (by have:=J4.2.1.1;omega) d p E.hash);rw[r7.2.2.2.2,yJ] at iD;go_wp2_with fail
   refine iD.mono ?_;rintro e V3 ⟨rfl,FR⟩;have L7:=hid (show PS w1 B bx bd y P a (N1+3) x E0 (t.slots x.depth) L sp b8 r1 d p va n vc es V3 from⟨r7.1.J0 FR,FR.heap r7.2.1 id,oN r7.2.2.1 FR,O0.trans r7.2.2.2.1 (O0.none FR),r7.2.2.2.2⟩);clear FR q0 q1 q2 q3 q4 qz ql t0' t1' t2' bB bC tl' iD;obtain⟨q0,q1,q2,q3,q4,qz,ql⟩:=cells5 L7.2.1;obtain⟨t0',t1',t2',bB,bC,tl'⟩:=T5.o V3 L7.2.2.2.1;have GK:=hid (lX0 L7.2.2.1 (by have:=J4.2.1.1;omega) d p oldest);rw[L7.2.2.2.2] at GK;go_wp2_with fail
   refine GK.mono ?_;rintro e VF ⟨aG,aH,rfl,hop,FP⟩;have sy:=L7.1.J0 FP;have mz:=FP.heap L7.2.1 id;have rD:=O0.trans L7.2.2.2.1 (O0.none FP);have No:=hid (show ∀ g,some g=(Value.slice aG (es.filter (U4 oldest)).length aH).ownBlock->w1.heap.size<=g from fun g hg=>nT L7.2.2.2.1.size (O6 hop hg).1);obtain⟨n1,ax⟩:=eX ((es.filter (U4 oldest)).length)
   have Ba:=hid ax;rw[ax];clear q0 q1 q2 q3 q4 qz ql t0' t1' t2' bB bC tl' GK ax;have am:=hi2 sy (aI hop rD);have fv:=hid mz;obtain⟨q0,q1,q2,q3,q4,qz,ql⟩:=cells5 mz;clear sy hop rD mz FP;go_upto_region 13 with fail
   obtain⟨VS,iO⟩:=eX (((VF.setCell (aA b8 2) (iI d)).setCell (aA b8 3) (iI p)).setCell (aA b8 4) (sL aG n1 aH))
   rw[iO];have FQ:Fr (fun k=>k=b8) VF VS:=by rw[<- iO];exact Qd VF b8 _ _ _
   have nO:VS.heap[b8]?=some (.cells #[iI r1.1,iI r1.2,iI d,iI p,sL aG n1 aH] 131):=by rw[<- iO];exact Ot fv.o _ _ _
   have oc:Y3 VS 0 (.slice aG (es.filter (U4 oldest)).length aH) _:=bi (own_base am.2.1) FQ (fun g hg e=>by
    obtain⟨_,c,hc⟩:=O6 am.2.1 (show some g=_ from hg.symm);rw[e,fv] at hc;cases hc)
   have M7:=hid (show PS w1 B bx bd y P a (N1+3) x E0 (t.slots x.depth) L sp b8 r1 d p aG n1 aH (es.filter (U4 oldest)) VS from⟨am.1.U2 FQ fv.o dC H8.1,nO,oc,O0.new am.2.2 FQ H8.2,Ba.o⟩);clear q0 q1 q2 q3 q4 qz ql iO FQ nO oc am fv r7 L7;cases hro:cy (es.filter (U4 oldest)) E.hash 3 with
   | true =>
    have jQ:=hid hro;have Y5:=hid (show (⟨(bare t).put x.depth (X0 E.hash x.depth) (tY (r5 (es.filter (U4 oldest)) E)),x.depth,sp,false⟩:wV)=R by
     rw[<- Et,Np,RU,if_pos jQ.o])
    clear hro;obtain⟨q0,q1,q2,q3,q4,qz,ql⟩:=cells5 M7.2.1;obtain⟨t0',t1',t2',bB,bC,tl'⟩:=T5.o VS M7.2.2.2.1;have iD:=hid (Ip M7.1.idx M7.2.2.1 gN.2.1 (by have:=gN.1;omega) d p E.hash);rw[M7.2.2.2.2,jQ] at iD;go_wp2_with fail
    refine iD.mono ?_;rintro e V4 ⟨rfl,FR⟩;have t7:=hid (show PS w1 B bx bd y P a (N1+3) x E0 (t.slots x.depth) L sp b8 r1 d p aG n1 aH (es.filter (U4 oldest)) V4 from⟨M7.1.J0 FR,FR.heap M7.2.1 id,oN M7.2.2.1 FR,O0.trans M7.2.2.2.1 (O0.none FR),M7.2.2.2.2⟩);clear FR q0 q1 q2 q3 q4 qz ql t0' t1' t2' bB bC tl' iD;obtain⟨q0,q1,q2,q3,q4,qz,ql⟩:=cells5 t7.2.1;obtain⟨t0',t1',t2',bB,bC,tl'⟩:=T5.o V4 t7.2.2.2.1;have gQ:=hid (XP t7.2.2.1 gN.2.1 (by have:=gN.1;omega) d p E);rw[t7.2.2.2.2] at gQ;go_wp2_with fail
    refine gQ.mono ?_;rintro e VP ⟨ap,cp,rfl,hop,FP⟩;have sy:=t7.1.J0 FP;have mz:=FP.heap t7.2.1 id;have rD:=O0.trans t7.2.2.2.1 (O0.none FP);have zN:=Yt gN.o jQ.o HE.o J4.2.2;obtain⟨np,tG⟩:=eX ((r5 (es.filter (U4 oldest)) E).length)
    have Ba:=hid tG;rw[tG];clear q0 q1 q2 q3 q4 qz ql t0' t1' t2' bB bC tl' gQ tG;have am:=hi2 sy (aI hop (aI rD zN));have fv:=hid mz;obtain⟨q0,q1,q2,q3,q4,qz,ql⟩:=cells5 mz;clear sy hop rD zN mz FP;go_upto_region 19 with fail
    obtain⟨VQ,iO⟩:=eX (((VP.setCell (aA b8 2) (iI d)).setCell (aA b8 3) (iI p)).setCell (aA b8 4) (sL ap np cp))
    rw[iO];have FQ:Fr (fun k=>k=b8) VP VQ:=(by rw[<- iO];exact Qd VP b8 _ _ _);have nO:VQ.heap[b8]?=some (.cells #[iI r1.1,iI r1.2,iI d,iI p,sL ap np cp] 131):=(by rw[<- iO];exact Ot fv.o _ _ _);have zt:=am.1.U2 FQ fv.o dC H8.1;have oc:Y3 VQ 0 (.slice ap (r5 (es.filter (U4 oldest)) E).length cp) _:=bi (own_base am.2.1) FQ (fun g hg e=>by
     obtain⟨_,c,hc⟩:=O6 am.2.1 (show some g=_ from hg.symm);rw[e,fv] at hc;cases hc)
    have yA:=O0.new am.2.2.1 FQ H8.2;have gO:=hid (EN zt (j:=j) HJ.o oc am.2.2.2 HD.2.1 HD.2.2 (IZ J4.1 (N6 HT.2.1)) (by have:=kR.2.2.2.2.2.2;omega));rw[Ba] at gO;have HQ:=hid yA;clear q0 q1 q2 q3 q4 qz ql iO FQ zt oc yA;obtain⟨q0,q1,q2,q3,q4,qz,ql⟩:=cells5 nO;go_wp2_with fail
    refine gO.mono ?_;rintro e VR ⟨err,rfl,FR,hr⟩;have HR:=hi2 FR hr;clear FR hr q0 q1 q2 q3 q4 qz ql nO gO;go_wp2_with fail
    go_ret2;refine⟨false,err,rfl,O0.trans (O0.none E1.o) (O0.trans HQ.o (uT HR.1 fun b hb=>.inl hb)),?_⟩;rcases HR.2 with⟨rfl,m,y',x',t',hI',C6,lk⟩|⟨rfl,ha,U0⟩
    .refine .inl ⟨rfl,by rw[<- Y5],y',x',t.put x.depth (X0 E.hash x.depth) fun _ _=>.leaf (↑m,↑y.gen) (r5 (es.filter (U4 oldest)) E),N1+3+20,?_,?_,?_,?_,HT.2.2.2.trans lk.1,lk.2.1.trans HG.1,lk.2.2.trans HG.2⟩
     .rw[<- Y5];exact OA J4.1 HT.2.1 HT.1 HT.2.2.1 HJ.o am.2.2.2 C6 hI'
     .have h1:(t.put x.depth (X0 E.hash x.depth) fun _ _=>.leaf (↑m,↑y.gen) (r5 (es.filter (U4 oldest)) E)).refs.length=t.refs.length:=Md (rZ (fun _ _=>.leaf (↑m,↑y.gen) (r5 (es.filter (U4 oldest)) E)) 1 (fun _ _=>rfl) t x.depth (X0 E.hash x.depth));have h2:=kR.2.1;omega
     .rw[<- Y5];exact BG _ _ (fun _ _=>rfl) t x.depth _
     .rw[<- Y5];exact C6
    .exact .inr ⟨rfl,ha,fD (U0.mono (by have:=kR.o;omega)) HT.2.2.2⟩
   | false =>
    have jQ:=hid hro;clear hro;obtain⟨q0,q1,q2,q3,q4,qz,ql⟩:=cells5 M7.2.1;obtain⟨t0',t1',t2',bB,bC,tl'⟩:=T5.o VS M7.2.2.2.1;have iD:=hid (Ip M7.1.idx M7.2.2.1 gN.2.1 (by have:=gN.1;omega) d p E.hash);rw[M7.2.2.2.2,jQ] at iD;go_wp2_with fail
    refine iD.mono ?_;rintro e V4 ⟨rfl,FR⟩;have t7:=hid (show PS w1 B bx bd y P a (N1+3) x E0 (t.slots x.depth) L sp b8 r1 d p aG n1 aH (es.filter (U4 oldest)) V4 from⟨M7.1.J0 FR,FR.heap M7.2.1 id,oN M7.2.2.1 FR,O0.trans M7.2.2.2.1 (O0.none FR),M7.2.2.2.2⟩);clear FR q0 q1 q2 q3 q4 qz ql t0' t1' t2' bB bC tl' iD;obtain⟨q0,q1,q2,q3,q4,qz,ql⟩:=cells5 t7.2.1;obtain⟨t0',t1',t2',bB,bC,tl'⟩:=T5.o V4 t7.2.2.2.1;obtain⟨i0,i1,i2,i3,i4,iz,il⟩:=cells5 t7.1.idx;by_cases ie:d<3
    .have UO:(d:Int)<3:=oM;go_wp2_with fail
     go_quiet (fail)
     have aK:=hid (t7.J0 (fR.drewN nq));clear q0 q1 q2 q3 q4 qz ql t0' t1' t2' bB bC tl' i0 i1 i2 i3 i4 iz il;obtain⟨V5,M5⟩:=eX (V4.drewN nq)
     rw[M5] at aK ⊢;clear M5;obtain⟨q0,q1,q2,q3,q4,qz,ql⟩:=cells5 aK.2.1;have hLl:L.length=t.refs.length:=(by rw[HT.2.2.1.length_eq,ER]);have Ka:=Oe gN.o oM;have hgs:∃ g sl',(d=x.depth/\g=x.depth+1/\sl'=ep (t.slots x.depth)\/d≠x.depth/\g=x.depth/\sl'=t.slots x.depth)/\(∃ k,Ag t g L k d p r1 es/\sl'=t.slots g/\eo f ((bare t).put g k (jZ d (es.filter (U4 oldest)))) g (sp+1) E oldest=R)/\max t.high (d+1)=g:=by
      have hq:=Np.o;rw[Et,RU,if_neg (by rw[jQ];decide),if_pos ie] at hq;by_cases xt:d=x.depth
      .rw[if_pos xt] at hq;exact⟨x.depth+1,_,.inl ⟨xt,rfl,rfl⟩,⟨_,yU0 J4.1 (N6 HT.2.1) HT.1 HT.2.2.1,rj0 t x.depth (N6 HT.2.1),hq.symm⟩,by rw[HT.2.1];omega⟩
      .rw[if_neg xt] at hq;exact⟨x.depth,_,.inr ⟨xt,rfl,rfl⟩,⟨_,J4.1,rfl,hq.symm⟩,by rw[HT.2.1];have:=HD.2.1;omega⟩
     obtain⟨g,sl',hg,⟨kk,zK,Dt,X4⟩,hmx⟩:=hgs;have X3:∀ i ∈ fS (p*2^(g-d)) (2^(g-d)),sl'[i]?=some r1:=by
      rw[Dt];exact IZ zK oM
     have jU:=hid (vz0 aK.1 HJ.o aK.2.2.1 gN.o HD.2.1 ie HD.2.2 (by have:=kR.o;omega) (by have:=kR.o;omega) hg X3 (by have:=kR.o;omega));rw[aK.2.2.2.2] at jU;have AW:=hi2 zK (aI Dt (aI X4 (aI hmx (aI Ka ie))));clear hg X3 hLl Ka zK Dt X4 hmx;go_wp2_with fail
     refine jU.mono ?_;rintro e VR ⟨err,rfl,FR,hr⟩;have HR:=hi2 FR hr;clear FR hr q0 q1 q2 q3 q4 qz ql jU;rcases HR.2 with⟨rfl,m0,m1,y',x',Y7,hI',C6,lk⟩|⟨rfl,ha,U0⟩
     .have uJ:=hi2 hI' (aI C6 lk);clear hI' C6 lk;go_wp2_with fail
      go_roundg f
      case measure=>omega
      case rel =>
       refine⟨rfl,?_⟩;have hI':=uJ.1;rw[AW.2.1] at hI';have hT:=tu0 AW.1 (by have:=AW.2.2.2.1;omega) AW.2.2.2.1 HT.1 HT.2.2.1 HJ.o AW.2.2.2.2.1.1 AW.2.2.2.2.1.2 uJ.2.1 hI';obtain⟨As,L2,vd,hP2⟩:=hT.ex;have h1:(t.put g kk fun _ _=>.node (.leaf (↑m0,↑y.gen) ((es.filter (U4 oldest)).filter fun x=>!ac d x)) (.leaf (↑m1,↑y.gen) ((es.filter (U4 oldest)).filter (ac d)))).refs.length=t.refs.length+1:=Md (rZ (fun _ _=>.node (.leaf (↑m0,↑y.gen) ((es.filter (U4 oldest)).filter fun x=>!ac d x)) (.leaf (↑m1,↑y.gen) ((es.filter (U4 oldest)).filter (ac d)))) 2 (fun _ _=>rfl) t g kk);have h2:=kR.o;have h3:=BK (t.put g kk fun _ _=>.node (.leaf (↑m0,↑y.gen) ((es.filter (U4 oldest)).filter fun x=>!ac d x)) (.leaf (↑m1,↑y.gen) ((es.filter (U4 oldest)).filter (ac d))));rw[hT.high] at h3;have h4:(2:Nat)^x'.depth<=2^3:=aZ dC vd.small.2.2;refine⟨y',x',As,_,L2,sp+1,N1+3+141,vd,⟨hP2,hT.high,hT.ok,HT.2.2.2.trans uJ.2.2.1⟩,⟨uJ.2.2.2.1.trans HG.1,uJ.2.2.2.2.trans HG.2⟩,?_,⟨oM,oM,oM⟩,⟨oM,oM⟩,O0.trans aK.2.2.2.1 HR.1⟩;rw[uJ.2.1,BG _ (jZ d (es.filter (U4 oldest))) (fun _ _=>rfl) t g kk];exact AW.2.2.1
     .have HX:=hi2 ha U0;clear ha U0;go_wp2_with fail
      go_ret2;exact⟨false,4,rfl,O0.trans (O0.none E1.o) ((O0.trans aK.2.2.2.1 HR.1)),.inr ⟨rfl,HX.1,fD (HX.2.mono (by have:=kR.o;omega)) HT.2.2.2⟩⟩
    .have UO:¬ (d:Int)<3:=oM;go_wp2_with fail
     go_quiet (fail)
     have aK:=hid (t7.J0 (fR.drewN nq));clear q0 q1 q2 q3 q4 qz ql t0' t1' t2' bB bC tl' i0 i1 i2 i3 i4 iz il;obtain⟨V5,M5⟩:=eX (V4.drewN nq)
     rw[M5] at aK ⊢;clear M5;obtain⟨q0,q1,q2,q3,q4,qz,ql⟩:=cells5 aK.2.1;obtain⟨t0',t1',t2',bB,bC,tl'⟩:=T5.o V5 aK.2.2.2.1;have uF:=hid (rA0 aK.2.2.1 (by have:=gN.1;omega) d p);rw[aK.2.2.2.2] at uF;have tD:3<=(es.filter (U4 oldest)).length:=by
      have h:=jQ.o;unfold cy at h;simp only[Bool.or_eq_false_iff,decide_eq_false_iff_not] at h;omega
     obtain⟨i,Po,gn⟩:=vQ0 (es:=(es.filter (U4 oldest))) (by intro h;rw[h] at tD;simp at tD);go_wp2_with fail
     refine uF.mono ?_;rintro e V6 ⟨he,FR⟩;rw[Po] at he;subst he;rw[aK.2.2.2.2] at Po;have bG:=hid (show PS w1 B bx bd y P a (N1+3) x E0 (t.slots x.depth) L sp b8 r1 d p aG n1 aH (es.filter (U4 oldest)) V6 from aK.J0 FR);have fb:=iu0 bG.2.2.1 (by have:=gN.1;omega) i (i+1) gn rfl;rw[bG.2.2.2.2] at fb;have AT:=hid (show cP 135 #[sL aG n1 aH,iI i,iI ((i:Int)+1)] V6 _ from fb);have Y5:=hid (show (⟨(bare t).put x.depth (X0 E.hash x.depth) (tY (r5 ((es.filter (U4 oldest)).eraseIdx i) E)),x.depth,sp,true⟩:wV)=R by
      rw[<- Et,Np,RU,if_neg (by rw[jQ];decide),if_neg ie,bG.2.2.2.2,Po];rfl)
     have AY:=hid (oS0 gN.o i);have SE:=hid (show cy ((es.filter (U4 oldest)).eraseIdx i) E.hash 3=true by
      have h1:=gN.1;unfold cy;rw[List.length_eraseIdx_of_lt gn];simp only[Bool.or_eq_true,decide_eq_true_eq];exact .inr oM)
     clear fb Po uF FR q0 q1 q2 q3 q4 qz ql t0' t1' t2' bB bC tl';have hi9:i<9:=(by have:=gN.1;omega);have HIL:=hid gn;clear gn tD;obtain⟨q0,q1,q2,q3,q4,qz,ql⟩:=cells5 bG.2.1;obtain⟨t0',t1',t2',bB,bC,tl'⟩:=T5.o V6 bG.2.2.2.1;go_wp2_with fail
     refine AT.mono ?_;rintro e VD ⟨v',rfl,VG,FD⟩;obtain⟨vN,vO,rfl,-,-,-,-⟩:=A2 VG;obtain⟨n2,ey⟩:=eX (((es.filter (U4 oldest)).eraseIdx i).length)
     have GT:=hid ey;have vC:∀ g,some g=(sL aG n1 aH).ownBlock->g≠b8:=fun g hg e=>by
      obtain⟨_,c,hc⟩:=O6 bG.2.2.1 (show some g=_ by rw[bG.2.2.2.2];exact hg);rw[e,bG.2.1] at hc;cases hc
     have hOB:∀ g,(sL aG n1 aH).ownBlock=some g->w1.heap.size<=g:=fun g hg=>No g (by rw[bG.2.2.2.2];exact hg.symm)
     have am:=hi2 (bG.1.turn (BY0 bG.2.2.1 (b':=w1.heap.size) fun g hg=>No g hg.symm) (by rw[bG.2.2.2.2];exact FD) (by have:=jR.o;omega)) (aI VG (O0.newS bG.2.2.2.1 FD hOB));have fv:=hid (show VD.heap[b8]?=some (.cells #[iI r1.1,iI r1.2,iI d,iI p,sL aG n1 aH] 131) from FD.heap bG.2.1 fun e=>vC b8 e.symm rfl);clear q0 q1 q2 q3 q4 qz ql t0' t1' t2' bB bC tl' AT vC hOB VG FD ey;obtain⟨q0,q1,q2,q3,q4,qz,ql⟩:=cells5 fv.o;rw[GT];go_upto_region 18 with fail
     obtain⟨V7,m8⟩:=eX (VD.setCell (aA b8 4) (sL vN n2 vO))
     rw[m8];have FQ:Fr (fun k=>k=b8) VD V7:=(by rw[<- m8];exact (Fr.refl (fun k=>k=b8) VD).setCell (a:=⟨b8,_,none⟩) (fun _=>rfl) _);have nO:V7.heap[b8]?=some (.cells #[iI r1.1,iI r1.2,iI d,iI p,sL vN n2 vO] 131):=(by rw[<- m8];exact hsc _ _ _ _ fv.o);have oc:Y3 V7 0 (.slice vN ((es.filter (U4 oldest)).eraseIdx i).length vO) _:=bi (own_base am.2.1) FQ (fun g hg e=>by
      obtain⟨_,c,hc⟩:=O6 am.2.1 (show some g=_ from hg.symm);rw[e,fv] at hc;cases hc)
     have mj:=hid (show PS w1 B bx bd y P a (N1+3) x E0 (t.slots x.depth) L sp b8 r1 d p vN n2 vO ((es.filter (U4 oldest)).eraseIdx i) V7 from⟨am.1.U2 FQ fv.o dC H8.1,nO,oc,O0.new am.2.2 FQ H8.2,GT.o⟩);clear q0 q1 q2 q3 q4 qz ql m8 FQ nO oc am fv hi9;obtain⟨q0,q1,q2,q3,q4,qz,ql⟩:=cells5 mj.2.1;obtain⟨t0',t1',t2',bB,bC,tl'⟩:=T5.o V7 mj.2.2.2.1;have gQ:=hid (XP mj.2.2.1 AY.2.1 (by have:=AY.1;omega) d p E);rw[mj.2.2.2.2] at gQ;go_wp2_with fail
     refine gQ.mono ?_;rintro e VP ⟨ap,cp,rfl,hop,FP⟩;have sy:=mj.1.J0 FP;have mz:=FP.heap mj.2.1 id;have rD:=O0.trans mj.2.2.2.1 (O0.none FP);have zN:=Yt AY.o SE.o HE.o J4.2.2;obtain⟨np,tG⟩:=eX ((r5 ((es.filter (U4 oldest)).eraseIdx i) E).length)
     have Ba:=hid tG;rw[tG];clear q0 q1 q2 q3 q4 qz ql t0' t1' t2' bB bC tl' gQ tG;have am:=hi2 sy (aI hop (aI rD zN));have fv:=hid mz;obtain⟨q0,q1,q2,q3,q4,qz,ql⟩:=cells5 mz;clear sy hop rD zN mz FP;go_upto_region 19 with fail
     obtain⟨VQ,iO⟩:=eX (((VP.setCell (aA b8 2) (iI d)).setCell (aA b8 3) (iI p)).setCell (aA b8 4) (sL ap np cp))
     rw[iO];have FQ:Fr (fun k=>k=b8) VP VQ:=(by rw[<- iO];exact Qd VP b8 _ _ _);have nO:VQ.heap[b8]?=some (.cells #[iI r1.1,iI r1.2,iI d,iI p,sL ap np cp] 131):=(by rw[<- iO];exact Ot fv.o _ _ _);have zt:=am.1.U2 FQ fv.o dC H8.1;have oc:Y3 VQ 0 (.slice ap (r5 ((es.filter (U4 oldest)).eraseIdx i) E).length cp) _:=bi (own_base am.2.1) FQ (fun g hg e=>by
      obtain⟨_,c,hc⟩:=O6 am.2.1 (show some g=_ from hg.symm);rw[e,fv] at hc;cases hc)
     have yA:=O0.new am.2.2.1 FQ H8.2;have gO:=hid (EN zt (j:=j) HJ.o oc am.2.2.2 HD.2.1 HD.2.2 (IZ J4.1 (N6 HT.2.1)) (by have:=kR.2.2.2.2.2.2;omega));rw[Ba] at gO;have HQ:=hid yA;clear q0 q1 q2 q3 q4 qz ql iO FQ zt oc yA;obtain⟨q0,q1,q2,q3,q4,qz,ql⟩:=cells5 nO;go_wp2_with fail
     refine gO.mono ?_;rintro e VR ⟨err,rfl,FR,hr⟩;have HR:=hi2 FR hr;clear FR hr q0 q1 q2 q3 q4 qz ql nO gO;go_wp2_with fail
     go_ret2;refine⟨true,err,rfl,O0.trans (O0.none E1.o) (O0.trans HQ.o (uT HR.1 fun b hb=>.inl hb)),?_⟩;rcases HR.2 with⟨rfl,m,y',x',t',hI',C6,lk⟩|⟨rfl,ha,U0⟩
     .refine .inl ⟨rfl,by rw[<- Y5],y',x',t.put x.depth (X0 E.hash x.depth) fun _ _=>.leaf (↑m,↑y.gen) (r5 ((es.filter (U4 oldest)).eraseIdx i) E),N1+3+20,?_,?_,?_,?_,HT.2.2.2.trans lk.1,lk.2.1.trans HG.1,lk.2.2.trans HG.2⟩
      .rw[<- Y5];exact OA J4.1 HT.2.1 HT.1 HT.2.2.1 HJ.o am.2.2.2 C6 hI'
      .have h1:(t.put x.depth (X0 E.hash x.depth) fun _ _=>.leaf (↑m,↑y.gen) (r5 ((es.filter (U4 oldest)).eraseIdx i) E)).refs.length=t.refs.length:=Md (rZ (fun _ _=>.leaf (↑m,↑y.gen) (r5 ((es.filter (U4 oldest)).eraseIdx i) E)) 1 (fun _ _=>rfl) t x.depth (X0 E.hash x.depth));have h2:=kR.2.1;omega
      .rw[<- Y5];exact BG _ _ (fun _ _=>rfl) t x.depth _
      .rw[<- Y5];exact C6
     .exact .inr ⟨rfl,ha,fD (U0.mono (by have:=kR.o;omega)) HT.2.2.2⟩
end
section
open Go.RowKit Go.Sg CP SF
def kW (es:List Bt)(h:Nat):List Bt:=if hasB es h=true then es.eraseIdx (co es h) else es
def Ce0 (d p:Int)(es:List Bt)(h:Nat)(w:w9)(e:Ending)(w':w9):Prop:=
 ∃ a c,e = rT (tU #[E9 d p (.slice a (kW es h).length c),bO (hasB es h)])/\Y3 w' w.heap.size (.slice a (kW es h).length c) (kW es h)/\Fq w w'
def vi0 {w:w9}{v:Value}{es:List Bt}(hE:Y3 w 0 v es)(hs:m9 es)(hl:es.length<=254)(d p:Int)(h:Nat) :
  cP 139 #[E9 d p v,iU h] w (Ce0 d p es h w):=by
 obtain⟨va,vc,rfl,-,-,-,-⟩:=A2 hE;obtain⟨n,hn⟩:=eX es.length
 obtain⟨w1,I0⟩:=eX ((w.alloc (.cells #[iI d,iI p,sL va n vc] 129)).alloc (.cells #[iI 0,iI 0,sL none 0 0] 129))
 obtain⟨b0,b1,F1⟩:=n9 I0;have HB:=hid fun W (F:Fq w1 W)=>aI (cells3 (F.heap b0 id)) (cells3 (F.heap b1 id));have Z5:=oN hE F1;have ei:=hid (WP Z5 hs oM d p h);have yD:=hid fun W (F:Fq w1 W)=>jb0 (oN Z5 F) oM;have E1:=hid F1;have HN:=hid hn;have HL:=hid hl;have jT:=hid hs;have hsz:w1.heap.size=w.heap.size+2:=by rw[<- I0];simp
 have eL:=hid hsz;obtain⟨⟨x0,x1,x2,xz,xl⟩,⟨y0,y1,y2,yz,yl⟩⟩:=HB.o _ fR;have HW:=hid I0;rw[hn] at ei yD ⊢;clear I0 b0 b1 F1 hE hs hl hn hsz Z5;obtain⟨q,hq⟩:=eX (co es h)
 obtain⟨hb,hhb⟩:=eX (hasB es h)
 have Bd:=hid (show cP 199 #[E9 d p (sL va n vc),iU h] w1 (fun e w'=>e = rT (tU #[iI q,bO hb])/\Fq w1 w') from ei.mono fun e w' hp=>⟨by rw[hp.1,hq,hhb],hp.2⟩);have HQ:=hi2 hq hhb;clear ei hq hhb;go_enter func139,ntmps139;go_upto_region 1 with fail
 rw[HW];go_wp2_with fail
 refine Bd.mono ?_;rintro e W2 ⟨rfl,F2⟩;have Y0:=hid F2;clear x0 x1 x2 xz xl y0 y1 y2 yz yl F2;obtain⟨⟨x0,x1,x2,xz,xl⟩,⟨y0,y1,y2,yz,yl⟩⟩:=HB.o _ Y0.o;go_wp2_with fail
 refine (yD _ Y0.o).mono ?_;rintro e W3 ⟨v3,rfl,K0,F3⟩;obtain⟨a3,c3,rfl,-,-,-,-⟩:=A2 K0;have fP:w.heap.size+2<=W2.heap.size:=by have:=eL.o;have:=Y0.size;omega
 have wB:=hid fP;have H3:=hi2 K0 (Y0.trans F3 nI);clear K0 F3 x0 x1 x2 xz xl y0 y1 y2 yz yl fP;obtain⟨⟨x0,x1,x2,xz,xl⟩,⟨y0,y1,y2,yz,yl⟩⟩:=HB.o _ H3.2;rw[HN];have FS:∀ (W:w9) (o:Nat) (u:Value),Fr (fun b=>b=w.heap.size+1) W (W.setCell (aA (w+1) o) u):=fun W o u=>(Fr.refl (fun b=>b=w.heap.size+1) _).setCell (a:=⟨w+1,o,none⟩) (fun _=>rfl) u
 have rI:=hid FS;clear FS;cases hb with
 | false =>
  have hP:kW es h=es:=by unfold kW;rw[HQ.2,if_neg dC]
  have HP:=hid hP;clear hP;go_wp2_with fail
  refine (LW d p va n vc a3 n c3 _).mono ?_;rintro e W6 ⟨rfl,F6⟩;have H6:=hi2 F6 (H3.2.trans F6 nI);clear F6 x0 x1 x2 xz xl y0 y1 y2 yz yl;obtain⟨⟨x0,x1,x2,xz,xl⟩,⟨y0,y1,y2,yz,yl⟩⟩:=HB.o _ H6.2;go_wp2_with fail
  refine bodyPost_ret (v:=tU #[E9 d p (sL a3 n c3),bO false]) sR rfl ⟨a3,c3,by rw[HP,HQ.2,HN],?_,?_⟩
  .rw[HP];exact bi (ao (oN H3.1 H6.1) (by have:=wB.o;omega)) (((rI _ _ _).trans (rI _ _ _) nI).trans (rI _ _ _) nI) (fun g' I1 e=>by
    have:=(O6 H3.1 (g:=g') I1.symm).1;have:=wB.o;omega)
  .exact (((E1.trans H6.2 nI).U2 oM _).U2 oM _).U2 oM _
 | true =>
  have hP:kW es h=es.eraseIdx q:=by unfold kW;rw[HQ.2,if_pos rfl,HQ.1]
  obtain⟨y,hy,-⟩:=(uS jT.o).1 HQ.2;rw[HQ.1] at hy;have ah:q<es.length:=(gI.1 hy).1;have hq9:q<254:=by have:=HL.o;omega
  have fb:=iu0 H3.1 (by have:=HL.o;omega) q (q+1) ah rfl;rw[HN] at fb;have AT:=hid (show cP 135 #[sL a3 n c3,iI q,iI ((q:Int)+1)] W3 _ from fb);have HP:=hi2 hP ah;clear hP hy ah fb;go_wp2_with fail
  refine AT.mono ?_;rintro e W5 ⟨v5,rfl,J3,F5⟩;obtain⟨a5,c5,rfl,-,-,-,-⟩:=A2 J3;have jo:Fq w1 W5:=H3.2.trans F5 (fun b hb e=>by
   have:=(O6 H3.1 (g:=b) (by rw[HN];exact e.symm)).1;have:=wB.o;have:=eL.o;omega)
  have H5:=hi2 J3 jo;obtain⟨n5,cG⟩:=eX ((es.eraseIdx q).length)
  have HN5:=hid cG;rw[cG];clear x0 x1 x2 xz xl y0 y1 y2 yz yl jo F5 J3 cG;obtain⟨⟨x0,x1,x2,xz,xl⟩,⟨y0,y1,y2,yz,yl⟩⟩:=HB.o _ H5.2;go_wp2_with fail
  refine (LW d p va n vc a5 n5 c5 _).mono ?_;rintro e W6 ⟨rfl,F6⟩;have H6:=hi2 F6 (H5.2.trans F6 nI);clear F6 x0 x1 x2 xz xl y0 y1 y2 yz yl;obtain⟨⟨x0,x1,x2,xz,xl⟩,⟨y0,y1,y2,yz,yl⟩⟩:=HB.o _ H6.2;go_wp2_with fail
  refine bodyPost_ret (v:=tU #[E9 d p (sL a5 n5 c5),bO true]) sR rfl ⟨a5,c5,by rw[HP.1,HQ.2,HN5],?_,?_⟩
  .rw[HP.1];exact bi (ao (oN H5.1 H6.1) (by have:=wB.o;omega)) (((rI _ _ _).trans (rI _ _ _) nI).trans (rI _ _ _) nI) (fun g' I1 e=>by
    have:=(O6 H5.1 (g:=g') I1.symm).1;have:=wB.o;omega)
  .exact (((E1.trans H6.2 nI).U2 oM _).U2 oM _).U2 oM _
end
section
open Go.RowKit Go.Sg Go.Sg.Bits Go.Sg.r4 CP SF
def nK (t:Tr)(g:Nat)(h:Nat):Tr × Bool:=
 let b:=t.at_ g (X0 h g) 0 0
 if hasB b.2.2.2 h=true then (t.put g (X0 h g) (tY (kW b.2.2.2 h)),true) else (t,false)
def Cd0 (B:P0)(bx bd:Nat)(y:Cs)(P:J2)(a:Bool)(N:Nat)(g:Nat)(sp:Int)(R:Tr × Bool)(n:Nat)(w:w9)(e:Ending)(w':w9):Prop:=
 ∃ (ok:Bool) (err:Int),e = rT (tU #[bO ok,iI err])/\O0 B (fun b=>b=bd\/b=bx) w w' /\
  ((err=0/\ok=R.2/\∃ (y':Cs) (x':P1) (t':Tr),bR w' B bx bd y' P a N x' t' sp/\(bare t'=R.1/\t'.refs.length=n)/\x'.depth=g/\(Like y y'/\y'.gen=y.gen/\y'.dead=y.dead))\/(err=4/\a=true/\C5 w' B y P N))
def yW0 {d p:Nat}{es:List Bt}(h:S8 d p es)(k:Nat):S8 d p (kW es k):=by
 unfold kW;split
 .exact oS0 h _
 .exact h
def xl0 {w:w9}{B:P0}{bx bd:Nat}{y:Cs}{P:D4}{a:Bool}{N:Nat}{x:P1}{t:Tr}{sp:Int}(h:bR w B bx bd y P a N x t sp){hash:Nat}(hh:hash<18446744073709551616)(hN:N+23<=90000) :
  cP 70 #[O7 bx,iU hash] w (Cd0 B bx bd y P a (N+23) x.depth sp (nK (bare t) x.depth hash) t.refs.length w):=by
 obtain⟨E0,L,hM,hP⟩:=h.ex;have bU:=h.depth;have pF:=hM.qS;have lG:X0 hash x.depth<2^x.depth:=LI oM hh;obtain⟨d,p,r,es,hb⟩:=Qx lG (N6 h.high) h.ok hP;obtain⟨j,hj⟩:=ou.1 hb.mem;have fI:=hb.dg;have gr:=hb.pl;have rM:=hid (YB hM hh hb.slot hb.mem hb.ok oM gr oM);have vZ:=hid (show nK (bare t) x.depth hash=if hasB es hash=true then ((bare t).put x.depth (X0 hash x.depth) (tY (kW es hash)),true) else (bare t,false) by
  unfold nK;rw[Jd,hb.at_])
 have HT:=hi2 h (aI hP (aI bU (aI hN (aI fI gr))));have J4:=hi2 hb hb.ok;have HJ:=hid hj;have MY:=hid pF;clear h hP bU hN fI gr hb hj pF hM lG hh;obtain⟨R,hR⟩:=eX (nK (bare t) x.depth hash)
 have Bf:=hid (vZ.symm.trans hR);rw[hR];clear hR vZ;go_enter func70,ntmps70;go_wp2_with fail
 refine rM.mono ?_;rintro e V1 ⟨r1,d1,p1,va,n,vc,err,rfl,F1,hr⟩;have bF:=hi2 F1 hr;clear F1 hr rM;obtain⟨b8,dJ⟩:=eX V1.heap.size
 have H8:=hid (show 0<b8/\w.heap.size<=b8 by
  have h2:=bF.1.size;have h3:=MY.o;omega)
 go_upto_region 4 with fail
 obtain⟨V2,K5⟩:=eX (V1.alloc (.cells #[iI r1.1,iI r1.2,iI d1,iI p1,sL va n vc] 131))
 rw[K5];have FV:=fA K5
 have g8:V2.heap[b8]?=some (.cells #[iI r1.1,iI r1.2,iI d1,iI p1,sL va n vc] 131):=by rw[<- K5,<- dJ];exact han _ _
 have Y0:=hid (D0.trans bF.1 (D0.none FV));have oO:=hid FV;have AV:=hid g8;clear dJ K5 FV g8;rcases bF.2 with⟨rfl,⟨rfl,rfl,rfl,hn⟩,ho,hM⟩|⟨rfl,ha,U0⟩
 rotate_left
 .have HX:=hi2 ha (U0.J0 oO.o);clear ha U0;go_wp2_with fail
  go_ret2;exact⟨false,4,rfl,O0.of Y0.o,.inr ⟨rfl,HX.1,HX.2.mono oM⟩⟩
 .have HM:=hid (hM.J0 oO.o);have A0:=oN (own_base ho) oO.o;have hdr:=vi0 A0 J4.2.2.1 (by have:=J4.2.1;omega) d p hash;rw[<- hn] at hdr;have dE:=hid hdr;clear ho hM hn A0 hdr;obtain⟨q0,q1,q2,q3,q4,qz,ql⟩:=cells5 AV.o;go_wp2_with fail
  refine dE.mono ?_;rintro e V3 ⟨a3,c3,rfl,ho3,F3⟩;have GV:=hi2 ho3 F3;obtain⟨n3,pN⟩:=eX ((kW es hash).length)
  have uK:=hid pN;rw[pN];obtain⟨hb,hhb⟩:=eX (hasB es hash)
  have Nj:=hid hhb;rw[hhb];clear ho3 pN hhb q0 q1 q2 q3 q4 qz ql dE F3;obtain⟨b9,R7⟩:=eX V3.heap.size
  go_upto_region 7 with fail
  obtain⟨V4,O4⟩:=eX (V3.alloc (.cells #[iI d,iI p,sL a3 n3 c3] 129))
  rw[O4];have F4:=fA O4
  have g9:V4.heap[b9]?=some (.cells #[iI d,iI p,sL a3 n3 c3] 129):=by rw[<- O4,<- R7];exact han _ _
  have Q5:=GV.2.trans F4 nI;have ZX:=hid (HM.J0 Q5);have HO4:=hid (oN (own_base GV.1) F4);have p8:=hid (D0.trans Y0.o (D0.none Q5));obtain⟨q0,q1,q2,q3,q4,qz,ql⟩:=cells5 (Q5.heap AV.o id);obtain⟨s0,s1,s2,sz,sl⟩:=cells3 g9;clear O4 R7 F4 g9 Q5;cases hb with
  | false =>
   go_wp2_with fail
   go_ret2;have hR:=Bf.o;rw[Nj,if_neg dC] at hR;refine⟨false,0,rfl,O0.of p8.o,.inl ⟨rfl,by rw[<- hR],y,x,t,⟨⟨E0,L,ZX.mono oM HT.2.2.2.1,HT.2.1⟩,HT.1.high,HT.1.ok⟩,⟨by rw[<- hR],rfl⟩,rfl,Like.refl y,rfl,rfl⟩⟩
  | true =>
   have M4:=yW0 J4.2 hash;have jC:=EN ZX.o (j:=j) HJ.o HO4.o M4 HT.2.2.2.2.1 HT.2.2.2.2.2 (IZ J4.1 (N6 HT.1.high)) (by have:=HT.2.2.2.1;omega);rw[uK] at jC;have gO:=hid jC;have Sj:=hid M4;clear jC M4;go_wp2_with fail
   refine gO.mono ?_;rintro e VR ⟨err,rfl,FR,hr⟩;have HR:=hi2 FR hr;clear FR hr q0 q1 q2 q3 q4 qz ql s0 s1 s2 sz sl gO;go_wp2_with fail
   go_ret2;have hR:=Bf.o;rw[Nj,if_pos rfl] at hR;refine⟨true,err,rfl,O0.trans (O0.of p8.o) (uT HR.1 fun b hb=>.inl hb),?_⟩;rcases HR.2 with⟨rfl,m,y',x',t',hI',C6,lk⟩|⟨rfl,ha,U0⟩
   .refine .inl ⟨rfl,by rw[<- hR],y',x',t.put x.depth (X0 hash x.depth) fun _ _=>.leaf (↑m,↑y.gen) (kW es hash),OA J4.1 HT.1.high HT.1.ok HT.2.1 HJ.o Sj.o C6 hI',⟨?_,?_⟩,C6,lk⟩
    .rw[<- hR];exact BG _ _ (fun _ _=>rfl) t x.depth _
    .exact Md (rZ (fun _ _=>.leaf (↑m,↑y.gen) (kW es hash)) 1 (fun _ _=>rfl) t x.depth (X0 hash x.depth))
   .exact .inr ⟨rfl,ha,U0⟩
