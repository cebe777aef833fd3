/- A pack of texts. Conditions: those that each names. -/
import Derived.Test.YtgdhaaokolfdoaaGreatDoorNBB
set_option maxHeartbeats 16000000
set_option maxRecDepth 100000
set_option linter.all false
namespace Go.Proofs.YtgdhaaokolfdoaaGreatDoor
open Tryz
section
open Go.RowKit Go.Sg Go.Sg.Bits Go.Sg.r4 CP SF
def OI (W:w9)(b:Nat)(u0 u1 u2:Value):Fr (fun k=>k=b) W (((W.setCell b u0).setCell (aA b 1) u1).setCell (aA b 2) u2):=
 (((Fr.refl (fun k=>k=b) W).setCell (a:=⟨b,_,none⟩) (fun _=>rfl) _).setCell (a:=⟨b,_,none⟩) (fun _=>rfl) _).setCell (a:=⟨b,_,none⟩) (fun _=>rfl) _
variable {B:P0}{V w:w9}{N bd bx g h hash k:Nat}{a:Bool}{sp:Int}
def D0.Zi {w1 V':w9}(F1:Fq w w1)(h:D0 B w1 V)(F:Fr (fun k=>k=w.heap.size) V V'):D0 B w V':=Fr.trans (D0.trans (D0.none F1) h) F fun k hk e=>by omega
def CZ0 (B:P0)(bx bd:Nat)(y:Cs)(P:J2)(a:Bool)(N:Nat)(x:P1)(E0 slots:List Rf)(L:List Bp)(sp:Int)(es:List Bt)(h:Nat)(w:w9)(e:Ending)(w':w9):Prop:=
 ∃ (c0 c1 c2:Int) (ok:Bool) (err:Int),e = rT (tU #[.agg #[iI c0,iI c1,iI c2],bO ok,iI err])/\D0 B w w' /\
  ((err=0/\ok=hasB es h/\.agg #[iI c0,iI c1,iI c2]=vQ (qI es h)/\Y1 w' B bx bd y P a N x E0 slots L sp)\/(err=4/\a=true/\C5 w' B y P N))
def ti0 (o:Option Bt):∃ c0 c1 c2:Int,vQ o = .agg #[iI c0,iI c1,iI c2]:=by
 cases o with
 | none=>exact⟨_,_,_,rfl⟩
 | some e=>exact⟨_,_,_,rfl⟩
variable {y:Cs}{P:J2}{x:P1}{E0:List Rf}{r:Rf}{es:List Bt}
def xk0 {slots:List Rf}{L:List Bp}(h:Y1 w B bx bd y P a N x E0 slots L sp)(hh:hash<18446744073709551616){d p:Nat}(hs:slots[X0 hash x.depth]?=some r)(hq:(r,Z6 d p es) ∈ L)(hk:S8 d p es)(hd:d<=8)(hp:p<2^d)(hN:N+3<=90000) :
  cP 66 #[O7 bx,iU hash] w (CZ0 B bx bd y P a (N+3) x E0 slots L sp es hash w):=by
 obtain⟨w1,I0⟩:=eX (w.alloc (.cells #[iI 0,iI 0,iI 0] 116))
 have b4:=fB I0
 have F1:=fA I0
 have E3:w1.heap.size=w.heap.size+1:=by rw[<- I0];simp
 have T5:=hid fun (V:w9) (F:D0 B w1 V)=>cells3 (F.heap b4 dC);have MV:=hid fun (V:w9) (F:D0 B w1 V)=>F.heap b4 dC;have MY:=hid (show 0<w.heap.size by have:=h.qS;omega);have rM:=hid (YB (h.J0 F1) hh hs hq hk hd hp hN);have E1:=hid F1;have jR:=hid E3;have HK:=hi2 hk hN;have HW:=hid I0;obtain⟨a0,a1,a2,az,al⟩:=T5.o _ (D0.refl _ _);clear h I0 b4 F1 E3 hs hq hk hd hp hN hh;go_enter func66,ntmps66;go_upto_region 1 with fail
 rw[HW];go_wp2_with fail
 refine rM.mono ?_;rintro e V1 ⟨r1,d1,p1,va,n,vc,err,rfl,F1,hr⟩;have bF:=hi2 F1 hr;clear F1 hr rM a0 a1 a2 az al;obtain⟨b8,dJ⟩:=eX V1.heap.size
 have H8:=hid (show w.heap.size<b8 by
  have h2:=bF.1.size;have h3:=jR.o;omega)
 go_upto_region 4 with fail
 obtain⟨V2,K5⟩:=eX (V1.alloc (.cells #[iI r1.1,iI r1.2,iI d1,iI p1,sL va n vc] 131))
 rw[K5];have FV:=fA K5
 have g8:V2.heap[b8]?=some (.cells #[iI r1.1,iI r1.2,iI d1,iI p1,sL va n vc] 131):=by rw[<- K5,<- dJ];exact han _ _
 have Y0:=hid (D0.trans bF.1 (D0.none FV));have oO:=hid FV;have AV:=hid g8;clear dJ K5 FV g8;rcases bF.2 with⟨rfl,⟨rfl,rfl,rfl,hn⟩,ho,hM⟩|⟨rfl,ha,U0⟩
 rotate_left
 .have HX:=hi2 ha (U0.J0 oO.o);clear ha U0;obtain⟨a0,a1,a2,az,al⟩:=T5.o _ Y0.o;go_wp2_with fail
  refine bodyPost_ret (v:=tU #[.agg #[iI 0,iI 0,iI 0],bO false,iI 4]) sR rfl ?_;exact⟨0,0,0,false,4,rfl,D0.Zi E1.o Y0.o (OI _ _ _ _ _),.inr ⟨rfl,HX.1,HX.2.M3 (OI _ _ _ _ _) (MV _ Y0.o) dC⟩⟩
 .have HM:=hid (hM.J0 oO.o);have Eg:=hid (find_ok (oN (own_base ho) oO.o) HK.1.2.1 (by have:=HK.1.1;omega) d p hash);rw[<- hn] at Eg;clear ho hM hn;obtain⟨a0,a1,a2,az,al⟩:=T5.o _ Y0.o;obtain⟨q0,q1,q2,q3,q4,qz,ql⟩:=cells5 AV.o;go_wp2_with fail
  refine Eg.mono ?_;rintro e V3 ⟨rfl,F3⟩;obtain⟨c0,c1,c2,dN⟩:=ti0 (qI es hash);obtain⟨ok,hok⟩:=eX (hasB es hash)
  have HL:=hi2 dN hok;rw[dN,hok];have N5:=hid F3;clear F3 a0 a1 a2 az al q0 q1 q2 q3 q4 qz ql dN hok Eg;obtain⟨a0,a1,a2,az,al⟩:=T5.o _ (D0.trans Y0.o (D0.none N5.o));go_wp2_with fail
  refine bodyPost_ret (v:=tU #[.agg #[iI c0,iI c1,iI c2],bO ok,iI 0]) sR rfl ?_;have F4:=D0.trans Y0.o (D0.none N5.o);refine⟨c0,c1,c2,ok,0,rfl,D0.trans (D0.Zi E1.o F4 (OI _ _ _ _ _)) (D0.none (fR.alloc _)),.inl ⟨rfl,HL.2.symm,HL.1.symm,?_⟩⟩;exact ((HM.J0 N5.o).U2 (OI _ _ _ _ _) (MV _ F4) dC MY.o).J0 (fR.alloc _)
def jO0 (h:∀ k,y.taken k=false)(hd:∀ k,y.dying k=false)(he:∀ k,y.dead k=false):Live y [] 11:=
 ⟨Mp,fun k hk=>(by cases hk),fun k hk=>(by cases hk),fun k _ ht=>(by rw[h] at ht;cases ht),⟨[],fun k hk=>(by rw[hd] at hk;cases hk),by simp⟩,⟨[],fun k hk=>(by rw[he] at hk;cases hk),by simp⟩⟩
def Zo:yS fC=⟨6,3,0,0,0⟩:=by
 have h6:(S6 fC).per.toNat=6:=by decide +kernel
 unfold yS;rw[h6];rfl
def yz0:YK fC=3:=by decide +kernel
def BZ0 (y:Cs)(c:Cont)(D:Dev)(hD:D=Dev.fresh 120 96)(hy:y=Ga fC 0 D c):y.plan=fC/\y.pages=108/\y.room=77/\y.places=8/\y.gen=1/\y.cont=c/\(∀ k,y.taken k=false)/\(∀ k,y.fresh k=false)/\(∀ k,y.dying k=false)/\∀ k,y.dead k=false:=by
 subst hy hD;exact⟨rfl,(show (S6 fC).pages.toNat=108 by decide +kernel),rfl,rfl,rfl,rfl,fun _=>rfl,fun _=>rfl,fun _=>rfl,fun _=>rfl⟩
def Bo0 {N' m0 m1 m2:Nat}{ld:List Int}(h0:C1 w B y uo false N)(hp:y.plan=fC)(X4:y.pages=108)(mV:y.room=77)(X9:y.places=8)(ht:∀ k,y.taken k=false)(hd:∀ k,y.dying k=false)(he:∀ k,y.dead k=false)
  (t0:dF y.taken y.pages y.hand m0) (t1:dF (y.new m0 ld).taken y.pages (y.new m0 ld).hand m1) (t2:dF ((y.new m0 ld).new m1 (P3 [((m0:Int),(y.gen:Int))])).taken y.pages ((y.new m0 ld).new m1 (P3 [((m0:Int),(y.gen:Int))])).hand m2)
  {w':w9} (hS:C1 w' B (((y.new m0 ld).new m1 (P3 [((m0:Int),(y.gen:Int))])).new m2 (P3 [((m1:Int),(y.gen:Int))])) uo false N') (hD:N2 w' bd B.s { yS y.plan with rp:=m2,rs:=y.gen }) (hI:dG w' bx B.s bd 3 3 0) (Z0:B.base<=bd/\B.base<=bx) :
  ∃ y' x E0,Y1 w' B bx bd y' uo false N' x E0 [((m0:Int),(y.gen:Int))] [(((m0:Int),(y.gen:Int)),ld)] 0/\x.depth=0/\(Like y y'/\y'.gen=y.gen/\y'.dead=y.dead):=by
 have O3:eS y.plan=true:=by rw[hp];exact Ey
 have hL:=jO0 ht hd he;have fJ:=wP h0;have De:m0<108:=by rw[<- X4];exact t0.1
 have vw:m1<108:=by rw[<- X4];exact t1.1
 have ew:m2<108:=by rw[<- X4];exact t2.1
 have n01:m0≠m1:=fun e=>by have:=t1.2.1;simp[Cs.new,upd,e] at this
 have n02:m0≠m2:=fun e=>by have:=t2.2.1;simp[Cs.new,upd,e] at this
 have n12:m1≠m2:=fun e=>by have:=t2.2.1;simp[Cs.new,upd,e] at this
 rw[hp,Zo] at hD;have a0:=h0.apart;have a1:Apart (y.new m0 ld).taken (y.new m0 ld).fresh (y.new m0 ld).dying (y.new m0 ld).dead:=a0.new t0.2.1;have a2:Apart ((y.new m0 ld).new m1 (P3 [((m0:Int),(y.gen:Int))])).taken ((y.new m0 ld).new m1 (P3 [((m0:Int),(y.gen:Int))])).fresh ((y.new m0 ld).new m1 (P3 [((m0:Int),(y.gen:Int))])).dying ((y.new m0 ld).new m1 (P3 [((m0:Int),(y.gen:Int))])).dead:=a1.new t1.2.1;have l2:=((hL.new (bs:=ld) a0 t0).new (bs:=P3 [((m0:Int),(y.gen:Int))]) a1 t1).new (bs:=P3 [((m1:Int),(y.gen:Int))]) a2 t2;have e2:(([]:List Nat)++[m0]++[m1]++[m2]).Perm (B2 (m2:Int) [((m1:Int),(y.gen:Int))]++X6 [(((m0:Int),(y.gen:Int)),ld)]):=by
  simp only[B2,X6,qf,xX,C7,vL,jK,ak];exact (List.Perm.swap _ _ _).trans (((List.Perm.swap _ _ _).cons _).trans (List.Perm.swap _ _ _))
 refine⟨_,⟨6,3,0,m2,y.gen⟩,[((m1:Int),(y.gen:Int))],⟨hS,hI,hD,⟨?_,(by simp[P1.slots]),(by simp[P1.leaves,P1.slots]),⟨?_,?_,?_⟩,⟨by simp,by simp⟩,?_⟩,(l2.perm e2).r _,?_,by simp,hp,X4,mV,X9,⟨rfl,rfl⟩,Z0⟩,rfl,⟨?_,rfl,rfl⟩⟩
 .refine yK0 (x:=⟨6,3,0,(m2:Int),(y.gen:Int)⟩) (by simpa[Cs.new] using O3) (by simp only[Cs.new];rw[hp];decide +kernel) (by simp only[Cs.new];rw[hp];rfl) (by simp only[Cs.new];rw[hp,mV];rfl) sP (by simp only[Cs.new];omega)
 .intro q hq;simp at hq;subst hq;exact yW oM fJ
 .intro q hq;simp at hq;subst hq;exact yW oM fJ
 .intro i q hi;cases i with
  | zero =>
   simp at hi;subst hi;simp only[Cs.new];rw[BJ oM,WK];simp[chunk]
  | succ i=>simp at hi
 .simp only[Cs.new];rw[WK];simp
 .intro q hq;simp at hq;subst hq;refine⟨yW oM fJ,?_⟩;simp only[Cs.new];rw[BJ oM,BJ oM,WK];simp
 .exact⟨rfl,rfl,rfl,rfl,rfl,rfl,rfl⟩
def DM0 (B:P0)(y:Cs)(N:Nat)(w:w9)(e:Ending)(w':w9):Prop:=
 ∃ (bx bd:Nat) (y':Cs) (x:P1) (E0:List Rf) (r:Rf),e = rT (tU #[O7 bx,iI 0])/\D0 B w w'/\(w<=bx/\w<=bd)/\Y1 w' B bx bd y' uo false (N+3) x E0 [r] [(r,Z6 0 0 [])] 0/\x.depth=0/\(Like y y'/\y'.gen=y.gen/\y'.dead=y.dead)
def ra0 (h:C1 w B y uo false N)(hp:y.plan=fC)(X4:y.pages=108)(mV:y.room=77)(X9:y.places=8)(ht:∀ k,y.taken k=false)(hd:∀ k,y.dying k=false)(he:∀ k,y.dead k=false)(hb:B.base<=w.heap.size)(hN:N+3<=90000) :
  cP 127 #[B.ptr] w (DM0 B y N w):=by
 have O3:eS y.plan=true:=by rw[hp];exact Ey
 have GW:=hid (yk0 h O3);have HH:=hi2 h (aI hp (aI X4 (aI mV (aI X9 (aI ht (aI hd (aI he (aI hb hN))))))));clear h hp X4 mV X9 ht hd he O3;go_enter func127,ntmps127;go_wp2_with fail
 refine GW.mono ?_;rintro e w1 ⟨bx,rfl,U3,th,F1⟩;rw[HH.2.1,yz0] at U3;have Jc:=PP (w:=w1) (v:=sL none 0 0) (es:=[]) ⟨by simp,.inl ⟨rfl,rfl⟩⟩ sP sP 0 0 3 dC dC sP dC (fun W F=>by
  have:=WI (w:=W) (v:=sL none 0 0) (es:=[]) ⟨by simp,.inl ⟨rfl,rfl⟩⟩ List.Pairwise.nil 0 0 3 dC dC dC dC sP sP;exact this)
 have rN:=hid (show cP 188 #[.agg #[iI 0,iI 0,sL none 0 0],iI 3] w1 (fun e w'=>∃ a c,e = rT (tU #[sL a 10 c,iI 0])/\T0 w' a 10 c (Z6 0 0 [])/\Fq w1 w') from Jc);obtain⟨i0,i1,i2,i3,i4,iz,il⟩:=cells5 U3;have HX:=hi2 U3 (aI th F1);clear U3 th F1 Jc;go_wp2_with fail
 refine rN.mono ?_;rintro e w2 ⟨pa,pc,rfl,O2,F2⟩;have cB:=(HH.1.J0 HX.2.2).J0 F2;have Ep:=hid (FY cB (O2.inp B) (Id 0 0 []) (by rw[HH.2.2.2.1];decide) ⟨0,by rw[HH.2.2.1];decide,HH.2.2.2.2.2.1 0⟩ (by have:=HH.2.2.2.2.2.2.2.2.2;omega));have H2:=hi2 (F2.heap HX.1 id) (aI (HX.2.2.trans F2 nI) cB);clear F2 O2 cB rN i0 i1 i2 i3 i4 iz il;obtain⟨i0,i1,i2,i3,i4,iz,il⟩:=cells5 H2.1;go_wp2_with fail
 refine Ep.mono ?_;rintro e w3 ⟨p,s,err,rfl,F3,⟨rfl,m0,rfl,rfl,t0,T9⟩|⟨_,ha,_⟩⟩;rotate_left
 .cases ha
 have g3:=F3.heap H2.1 dC;have Hi:=hid t0;have H3:=hi2 F3 (aI g3 T9);clear F3 g3 T9 t0 Ep i0 i1 i2 i3 i4 iz il;obtain⟨w4,eE⟩:=eX (w3.alloc (.cells #[iI m0,iI y.gen] 35))
 have F4:=fA eE
 have b4:=fB eE
 have De:m0<108:=by have:=Hi.1;rw[HH.2.2.1] at this;exact this
 have nY:=(jO0 HH.2.2.2.2.2.1 HH.2.2.2.2.2.2.1 HH.2.2.2.2.2.2.2.1).new (bs:=Z6 0 0 []) HH.1.apart Hi.o;have hMk:=nJ0 (H3.2.2.J0 F4) (show eS (y.new m0 (Z6 0 0 [])).plan=true by show eS y.plan=true;rw[HH.2.1];exact Ey) nY (by show ([]++[m0]).length+1+2*11<y.pages;rw[HH.2.2.1];simp) (by show y.pages<=_;rw[HH.2.2.1];decide) (by show 12<=y.room;rw[HH.2.2.2.1];decide) ((m0:Int),(y.gen:Int)) (yW oM (wP HH.1)) (by have:=HH.2.2.2.2.2.2.2.2.2;omega);have yH:=hid hMk;have p8:=hid F4;have NA:=hid eE;have GL:=hid (F4.heap H3.2.1 id);obtain⟨c0,c1,cz,cl⟩:=cells2 b4;obtain⟨i0,i1,i2,i3,i4,iz,il⟩:=cells5 GL.o;clear hMk nY eE F4 b4 De;go_upto_region 8 with fail
 rw[NA];go_wp2_with fail
 refine yH.mono ?_;rintro e w5 ⟨v,err,rfl,F5,⟨rfl,bd,m1,m2,rfl,iR,hD,t1,t2,hS⟩|⟨_,ha,_⟩⟩;rotate_left
 .cases ha
 have g5:=F5.heap GL.o dC;have H5:=hi2 F5 (aI g5 (aI iR (aI hD (aI t1 (aI t2 hS)))));clear F5 g5 iR hD t1 t2 hS yH i0 i1 i2 i3 i4 iz il c0 c1 cz cl;obtain⟨i0,i1,i2,i3,i4,iz,il⟩:=cells5 H5.2.1;go_wp2_with fail
 go_ret2;have F0:D0 B w w5:=D0.trans (D0.none H2.2.1) (D0.trans H3.1 (D0.trans (D0.none p8.o) H5.1));have F6:Fr (fun k=>k=bx) w5 (w5.setCell (aA bx 1) (A7 bd)):=(Fr.refl (fun k=>k=bx) w5).setCell (a:=⟨bx,1,none⟩) (fun _=>rfl) _;have JA:w<=bd:=nT (D0.trans (D0.none H2.2.1) (D0.trans H3.1 (D0.none p8.o))).size H5.2.2.1;have JC:w<=bx:=HX.2.1;have hI:=Bo0 (ld:=Z6 0 0 []) HH.1 HH.2.1 HH.2.2.1 HH.2.2.2.1 HH.2.2.2.2.1 HH.2.2.2.2.2.1 HH.2.2.2.2.2.2.1 HH.2.2.2.2.2.2.2.1 Hi.o H5.2.2.2.2.1 H5.2.2.2.2.2.1 (H5.2.2.2.2.2.2.M3 F6 H5.2.1 dC (by have:=HH.1.base;have:=HH.1.jr;omega)) (F6.heap H5.2.2.2.1 fun e=>by have h1:=H5.2.2.2.1;unfold N2 at h1;rw[e,H5.2.1] at h1;cases h1) (hsc _ _ _ _ H5.2.1) ⟨nT HH.2.2.2.2.2.2.2.2.1 JA,nT HH.2.2.2.2.2.2.2.2.1 JC⟩;obtain⟨y',x,E0,hM,hx,hL⟩:=hI;exact⟨bx,bd,y',x,E0,_,rfl,Fr.trans F0 F6 fun k hk e=>oM,⟨JC,JA⟩,hM,hx,hL⟩
def CV0 (w:w9)(e:Ending)(w':w9):Prop:=
 ∃ (B:P0) (bx bd:Nat) (y:Cs) (x:P1) (r:Rf),e = rT (tU #[pO (aP B.d 0),B.ptr,O7 bx])/\Fq w w'/\(B.base=w.heap.size/\w<=bx/\w<=bd)/\bR w' B bx bd y uo false 3 x (.leaf r []) 0/\x.depth=0/\(y.gen=1/\(∀ k,y.dead k=false)/\y.first=12)
def vB0 (h:Y1 w B bx bd y uo false N x E0 [r] [(r,Z6 0 0 [])] 0)(hx:x.depth=0):bR w B bx bd y uo false N x (.leaf r []) 0:=
 ⟨⟨E0,_,by rw[hx];exact h,List.Perm.refl _⟩,by rw[hx];rfl,⟨by simp,List.Pairwise.nil,by simp⟩⟩
def mn0 (w:w9)(hT:Tab w):cP 62 #[] w (CV0 w):=by
 have sH:=hT.lt;have HT:=hid hT;have ZA:=hid (nW0 120 96 oM oM w);clear hT;go_enter func62,ntmps62;go_wp2_with fail
 refine ZA.mono ?_;rintro e w1 ⟨rfl,hD,F1⟩;have HD:=hid hD;have E1:=hid F1;clear hD F1;go_wp2_with fail
 refine (jC0 _).mono ?_;rintro e w2 ⟨rfl,F2⟩;have Y0:=hid (E1.trans F2 nI);have uE:=hid (HD.fr F2 id id id fun _ _ _ _ _ h=>h);clear F2;go_wp2_with fail
 have Zz:=vH0 uE.o Y0.size (HT.fr Y0.o id) sH 3 2 4 3 8 0 Ey;refine Zz.mono ?_;rintro e w3 ⟨B,hB,rfl,hS,F3⟩;have N5:=hid (Y0.trans F3 nI);have Z0:B.base=w.heap.size:=hB.1;have HB:=hid hB;obtain⟨a1,a2,a3,a4,a5,a6,a7,a8,a9,a10⟩:=BZ0 _ (fun _=>none) _ rfl rfl;have HM:=hid (ra0 hS a1 a2 a3 a4 a7 a9 a10 (by rw[Z0];exact N5.size) oM);have HG:=hi2 a5 (aI a10 (show (Ga fC 0 (Dev.fresh 120 96) fun _=>none).first=12 from (show (S6 fC).page=12 by decide +kernel)));clear hB hS F3 Zz HD uE ZA Y0 E1 a1 a2 a3 a4 a5 a6 a7 a8 a9 a10;go_wp2_with fail
 refine HM.mono ?_;rintro e w4 ⟨bx,bd,y,x,E0,r,rfl,F4,cY,hM,hx,hL⟩;have H4:=hi2 F4 (aI cY (aI hM (aI hx hL)));clear F4 cY hM hx hL HM;go_wp2_with fail
 have hw:=N5.size;refine bodyPost_ret (v:=tU #[pO (aP (w+2) 0),B.ptr,O7 bx]) sR rfl ?_;refine⟨B,bx,bd,y,x,r,by rw[HB.2.1],D1.J0 (uR H4.1) oM N5.o,⟨Z0,nT hw H4.2.1.1,nT hw H4.2.1.2⟩,vB0 H4.2.2.1 H4.2.2.2.1,H4.2.2.2.1,H4.2.2.2.2.2.1.trans HG.1,fun k=>?_,H4.2.2.2.2.1.first.trans HG.2.2⟩
 .rw[H4.2.2.2.2.2.2];exact HG.2.1 k
def Ig:∀ t:Tr,(bare t).refs.length=t.refs.length
 | .leaf _ _=>rfl
 | .node l r=>by simp only[bare,Tr.refs,lA,Ig l,Ig r]
def vR (t:Tr)(g h:Nat):List Bt:=((bare t).at_ g (X0 h g) 0 0).2.2.2
def Cb0 (B:P0)(bx bd:Nat)(y:Cs)(P:J2)(a:Bool)(N:Nat)(x:P1)(t:Tr)(sp:Int)(h:Nat)(w:w9)(e:Ending)(w':w9):Prop:=
 ∃ (c0 c1 c2:Int) (ok:Bool) (err:Int),e = rT (tU #[.agg #[iI c0,iI c1,iI c2],bO ok,iI err])/\D0 B w w' /\
  ((err=0/\ok=hasB (vR t x.depth h) h/\.agg #[iI c0,iI c1,iI c2]=vQ (qI (vR t x.depth h) h)/\bR w' B bx bd y P a N x t sp)\/(err=4/\a=true/\C5 w' B y P N))
variable {t:Tr}
def bR.find (h:bR w B bx bd y P a N x t sp)(hh:hash<18446744073709551616)(hN:N+3<=90000) :
  cP 66 #[O7 bx,iU hash] w (Cb0 B bx bd y P a (N+3) x t sp hash w):=by
 obtain⟨E0,L,hM,hP⟩:=h.ex;have hd:=h.depth;have lG:X0 hash x.depth<2^x.depth:=LI oM hh;obtain⟨d,p,r,es,hb⟩:=Qx lG (N6 h.high) h.ok hP;have hes:vR t x.depth hash=es:=by unfold vR;rw[Jd,hb.at_]
 refine (xk0 hM hh hb.slot hb.mem hb.ok (by have:=hb.dg;omega) hb.pl hN).mono ?_;rintro e w' ⟨c0,c1,c2,ok,err,he,F,⟨h0,h1,h2,h3⟩|hr⟩
 .exact⟨c0,c1,c2,ok,err,he,F,.inl ⟨h0,by rw[hes];exact h1,by rw[hes];exact h2,⟨⟨E0,L,h3,hP⟩,h.high,h.ok⟩⟩⟩
 .exact⟨c0,c1,c2,ok,err,he,F,.inr hr⟩
def cQ (k:Nat):Bt:=⟨(k % 2)*9223372036854775808+k,0,0,0⟩
def mr:Nat->wV
 | 0=>⟨.leaf (0,0) [],0,0,false⟩
 | k+1=>eo 8 (mr k).t (mr k).g (mr k).sp (cQ k) 0
def aw1:mr 1=⟨.leaf (0,0) [cQ 0],0,0,false⟩:=by kernel_rfl
def aw2:mr 2=⟨.leaf (0,0) [cQ 0,cQ 1],0,0,false⟩:=by kernel_rfl
def aw3:mr 3=⟨.leaf (0,0) [cQ 0,cQ 2,cQ 1],0,0,false⟩:=by kernel_rfl
def NH:mr 4=⟨.node (.leaf (0,0) [cQ 0,cQ 2]) (.leaf (0,0) [cQ 1,cQ 3]),1,1,false⟩:=by kernel_rfl
def Yr (a b c d e f:Int)(w:w9):(binOp .eql 116 (.agg #[iI a,iI b,iI c]) (.agg #[iI d,iI e,iI f])).run prog w = .ok (bO (decide (a=d) && (decide (b=e) && decide (c=f)))) w:=by
 have h:prog.underlying 116=_:=underlying116;go_simp;by_cases h1:a=d <;> by_cases h2:b=e <;> by_cases h3:c=f <;> simp[h1,h2,h3]
def Es0:((cQ 0).hash:Int)=0:=by simp[cQ]
def Er0:((cQ 1).hash:Int)=9223372036854775809:=by simp[cQ]
def Eq0:((cQ 2).hash:Int)=2:=by simp[cQ]
def Ep0:((cQ 3).hash:Int)=9223372036854775811:=by simp[cQ]
def MD (w0:w9)(base:Nat)(bx:Nat)(k:Nat)(V:w9):Prop:=
 ∃ (B:P0) (bd:Nat) (y:Cs) (x:P1) (t:Tr) (N:Nat),bR V B bx bd y uo false N x t (mr k).sp/\N<=3+1230*k/\(bare t=(mr k).t/\x.depth=(mr k).g)/\B.base=base/\Fq w0 V/\(base=w0.heap.size/\base<=bx/\base<=bd)
def Qy {w0:w9}{base:Nat}(h:MD w0 base bx k V)(hk:k<4):cP 64 #[O7 bx,.agg #[iU (cQ k).hash,iI 0,iI 0,iI 0],iI 0] V (fun e w'=>e = rT (tU #[bO false,iI 0])/\MD w0 base bx (k+1) w'):=by
 obtain⟨B,bd,y,x,t,N,hT,hN,⟨hb,hg⟩,hB,hF,U1⟩:=h;have hE:tZ (cQ k):=by
  refine⟨?_,by simp[cQ],by simp[cQ],by simp[cQ]⟩;simp only[cQ];have:=rm k (show 0<2 by decide);omega
 have hsp:0<=(mr k).sp/\(mr k).sp+8<=100000:=by
  rcases (by omega:k=0\/k=1\/k=2\/k=3) with rfl|rfl|rfl|rfl
  .decide
  .rw[aw1];decide
  .rw[aw2];decide
  .rw[aw3];decide
 have hR:eo 8 (bare t) x.depth (mr k).sp (cQ k) 0=mr (k+1):=by rw[hb,hg];rfl
 have hl:(mr (k+1)).lost=false:=by
  rcases (by omega:k=0\/k=1\/k=2\/k=3) with rfl|rfl|rfl|rfl
  .rw[aw1]
  .rw[aw2]
  .rw[aw3]
  .rw[NH]
 have hp:=uA0 hT (cQ k) 0 hE hsp oM;rw[hR] at hp;refine hp.mono ?_;rintro e w' ⟨lost,err,rfl,F,⟨rfl,rfl,y',x',t',N',eu,Ui,P4,C6,-⟩|⟨_,ha,_⟩⟩
 .have hr:=eu.depth;have h1:=BK t';rw[eu.high] at h1;have h2:(2:Nat)^x'.depth<=2^3:=aZ dC hr;have h3:=WM t;refine⟨by rw[hl],B,bd,y',x',t',N',eu,oM,⟨P4,C6⟩,hB,?_,U1⟩;exact hF.trans F fun b hb hs=>by
   rcases hs with hs|hs|hs
   .have:=hs.1;omega
   .omega
   .omega
 .cases ha
def jg0 (w:w9)(hT:Tab w):cP 69 #[] w fun e w'=>e = rT (bO true)/\Fq w w':=by
 have HM:=hid (mn0 w hT);clear hT;go_enter func69,ntmps69;go_wp2_with fail
 refine HM.mono ?_;rintro e w1 ⟨B,bx,bd,y,x,r,rfl,F1,⟨E5,L4,P5⟩,hI,hx,-⟩;have HI:=hid (show MD w w.heap.size bx 0 w1 from⟨B,bd,y,x,_,3,hI,oM,⟨rfl,hx⟩,E5,F1,⟨rfl,L4,P5⟩⟩);clear F1 E5 L4 P5 hI hx HM;go_wp2_with fail
 go_loopg [4] 4 (fun n v wr=>∃ k:Nat,v = iI k/\n+k=4/\MD w w.heap.size bx k wr)
 case atStart=>exact⟨0,rfl,rfl,HI.o⟩
 case round =>
  obtain⟨k,rfl,hnk,hA⟩:=hrel;have HA:=hid hA;clear hA;rcases (by omega:k=0\/k=1\/k=2\/k=3\/k=4) with rfl|rfl|rfl|rfl|rfl
  .have hp:=Qy HA.o oM;rw[Es0] at hp;have HP:=hid hp;clear hp;go_wp2_with fail
   refine HP.mono ?_;rintro e V ⟨rfl,jy⟩;have lR:=hid jy;clear jy HP;go_wp2_with fail
   go_roundg 3
   case measure=>omega
   case rel=>exact⟨1,by simp,oM,lR.o⟩
  .have hp:=Qy HA.o oM;rw[Er0] at hp;have HP:=hid hp;clear hp;go_wp2_with fail
   refine HP.mono ?_;rintro e V ⟨rfl,jy⟩;have lR:=hid jy;clear jy HP;go_wp2_with fail
   go_roundg 2
   case measure=>omega
   case rel=>exact⟨2,by simp,oM,lR.o⟩
  .have hp:=Qy HA.o oM;rw[Eq0] at hp;have HP:=hid hp;clear hp;go_wp2_with fail
   refine HP.mono ?_;rintro e V ⟨rfl,jy⟩;have lR:=hid jy;clear jy HP;go_wp2_with fail
   go_roundg 1
   case measure=>omega
   case rel=>exact⟨3,by simp,oM,lR.o⟩
  .have hp:=Qy HA.o oM;rw[Ep0] at hp;have HP:=hid hp;clear hp;go_wp2_with fail
   refine HP.mono ?_;rintro e V ⟨rfl,jy⟩;have lR:=hid jy;clear jy HP;go_wp2_with fail
   go_roundg 0
   case measure=>omega
   case rel=>exact⟨4,by simp,oM,lR.o⟩
  .obtain⟨B',bd',y',x',t',N',eu,Ui,⟨P4,C6⟩,II,hF',U1⟩:=HA.o;have HE:=hid (show hasB (vR t' x'.depth 9223372036854775809) 9223372036854775809=true/\vQ (qI (vR t' x'.depth 9223372036854775809) 9223372036854775809) = .agg #[iI 0,iI 0,iI 0] by
    unfold vR;rw[P4,C6,NH];exact⟨by decide +kernel,by kernel_rfl⟩)
   have hf:=eu.find (hash:=9223372036854775809) dC oM;rw[show ((9223372036854775809:Nat):Int)=9223372036854775809 by omega] at hf;have Nf:=hid hf;clear hf;have HH:=hi2 hF' (aI II (aI U1 C6));clear eu Ui P4 C6 II hF' U1;go_wp2_with fail
   refine Nf.mono ?_;rintro e V ⟨c0,c1,c2,ok,err,rfl,F,⟨rfl,hok,hc,hI⟩|⟨_,ha,_⟩⟩;rotate_left
   .cases ha
   rw[HE.1] at hok;rw[HE.2] at hc;cases hc;subst hok;obtain⟨V2,K5⟩:=eX (V.alloc (.cells #[iI 0,iI 0,iI 0] 116))
   have F2:=fA K5
   have b2:=fB K5
   have HI2:=hid (hI.J0 F2);obtain⟨As,L2,vd,-⟩:=HI2.ex;have iA:=hid fun W (F:Fq V2 W)=>mI0 (vd.J0 F).idx (vd.J0 F).dir;have jU:=hid fun W (F:Fq V2 W)=>rX0 (vd.J0 F).idx;rw[HH.2.2.2,NH] at iA;rw[NH] at jU;obtain⟨a0,a1,a2,az,al⟩:=cells3 b2;have HV:=hid K5;have HF:=hi2 F F2;clear K5 F2 b2 hI F vd;go_upto_region 11 with fail
   rw[HV];go_wp2_with fail
   refine (iA _ fR).mono ?_;rintro e V3 ⟨rfl,rfl⟩;go_wp2_with fail
   refine (jU _ fR).mono ?_;rintro e V4 ⟨rfl,rfl⟩;have tq:=Yr 0 0 0 0 0 0;simp only[decide_true,Bool.and_self] at tq;go_wp2_with fail
   refine bodyPost_ret (v:=bO true) sR rfl ⟨rfl,?_⟩;have hb:=HH.2.1;have U1:=HH.2.2.1;exact (D1.J0 (uR (D0.trans HF.1 (D0.none HF.2))) oM HH.1)
def Xn (es:List Bt)(h:Nat):es.take (co es h)=es.takeWhile fun e=>decide (e.hash<h):=by
 unfold co;exact (XJ.1 (List.takeWhile_prefix _)).symm
def tE0 (es:List Bt)(x:Bt)(hs:m9 es):∃ rest,r5 es x=(es.takeWhile fun e=>decide (e.hash<x.hash))++x :: rest:=by
 unfold r5;split
 .rename_i hb;obtain⟨y,hy,-⟩:=(uS hs).1 hb;have hlt:=(gI.1 hy).1;refine⟨es.drop (co es x.hash+1),?_⟩;rw[<- Xn,List.set_eq_take_append_cons_drop,if_pos hlt]
 .exact⟨es.drop (co es x.hash),by unfold fi;rw[Xn]⟩
def BB0 (l:List Bt)(p:Bt->Bool)(x:Bt)(rest:List Bt)(hx:p x=false):(l.takeWhile p++x :: rest).takeWhile p=l.takeWhile p:=by
 induction l with
 | nil=>simp[hx]
 | cons y l ih =>
  rw[List.takeWhile_cons];split
  .rename_i hy;simp[hy,ih]
  .simp[hx]
def yt0 (es:List Bt)(x:Bt)(hs:m9 es):hasB (r5 es x) x.hash=true/\qI (r5 es x) x.hash=some x:=by
 obtain⟨rest,hr⟩:=tE0 es x hs;have h1:hasB (r5 es x) x.hash=true:=by rw[hr];unfold hasB;simp
 refine⟨h1,?_⟩;unfold qI;rw[if_pos h1];unfold co;rw[hr,BB0 _ _ _ _ sP];simp
def bS (es:List Bt)(h:Nat):Option Bt:=es.find? fun x=>decide (x.hash=h)
def OR (es:List Bt)(h:Nat):hasB es h=(bS es h).isSome:=by
 unfold hasB bS;induction es with
 | nil=>rfl
 | cons x l ih =>
  simp only[List.any_cons,uj];by_cases hx:x.hash=h
  .simp[hx]
  .simp[hx,ih]
def vI0 (hn:∀ x ∈ es,x.hash≠h):bS es h=none:=by
 unfold bS;rw[Qm];intro x hx;simpa using hn x hx
def qU0 (a b:List Bt)(h:Nat):bS (a++b) h=(bS a h).or (bS b h):=by
 unfold bS;rw[List.find?_append]
def vJ0 (x:Bt)(l:List Bt)(h:Nat):bS (x :: l) h=if x.hash=h then some x else bS l h:=by
 unfold bS;rw[uj];by_cases hx:x.hash=h <;> simp[hx]
def Dg0 (es:List Bt)(h:Nat):∀ x ∈ es.takeWhile fun e=>decide (e.hash<h),x.hash<h:=by
 intro x hx;have:=List.all_takeWhile (l:=es) (p:=fun e=>decide (e.hash<h));rw[Qr] at this;simpa using this x hx
def Az0 (es:List Bt)(h:Nat):∀ x ∈ es.take (co es h),x.hash<h:=by
 rw[Xn];exact Dg0 es h
def yI0 {y:Bt}(hs:m9 es)(hy:es[k]?=some y):∀ x ∈ es.drop (k+1),y.hash<x.hash:=by
 intro x hx;obtain⟨j,hj⟩:=ou.1 hx;rw[jJ] at hj;have hk:=(gI.1 hy);have CY:=(gI.1 hj);have:=xT.1 hs k (k+1+j) hk.1 CY.1 oM;rw[hk.2,CY.2] at this;exact this
def pK0 {y:Bt}(hy:es[k]?=some y):es=es.take k++y :: es.drop (k+1):=by
 have hk:=(gI.1 hy);have:=Mb k es;rw[FT hk.1,hk.2] at this;exact this.symm
def sJ0 (hs:m9 es)(hb:hasB es h=true):∃ y,es[co es h]?=some y/\y.hash=h/\bS es h=some y:=by
 obtain⟨y,hy,hh⟩:=(uS hs).1 hb;refine⟨y,hy,hh,?_⟩;have h0:=Az0 es h;rw[pK0 hy,qU0,vI0 (fun x hx=>by have:=h0 x hx;omega),vJ0,if_pos hh];rfl
def yX0 (hs:m9 es):qI es h=bS es h:=by
 unfold qI;by_cases hb:hasB es h=true
 .obtain⟨y,hy,hh,hf⟩:=sJ0 hs hb;rw[if_pos hb,hy,hf]
 .rw[if_neg hb];have:=OR es h;cases hf:bS es h with
  | none=>rfl
  | some y=>rw[hf] at this;exact absurd this hb
def Av (h d:Nat):Bool:=decide (X0 h (d+1) % 2=1)
def look:Tr->Nat->Nat->Nat × List Bt
 | .leaf _ es,d,_=>(d,es)
 | .node l r,d,h=>if Av h d=true then look r (d+1) h else look l (d+1) h
def Gj (T:Tr):Tr->Nat->Nat->Tr
 | .leaf _ _,_,_=>T
 | .node l r,d,h=>if Av h d=true then .node l (Gj T r (d+1) h) else .node (Gj T l (d+1) h) r
def same:Tr->Nat->Nat->Nat->Bool
 | .leaf _ _,_,_,_=>true
 | .node l r,d,e,h=>if Av e d=true then Av h d && same r (d+1) e h else !Av h d && same l (d+1) e h
def XR {h:Nat}(hh:h<18446744073709551616):∀ (t:Tr) (g d p:Nat),t.high<=g->d+g<=20->(t.at_ g (X0 h (d+g) % 2^g) d p).1=(look t d h).1/\(t.at_ g (X0 h (d+g) % 2^g) d p).2.2.2=(look t d h).2/\∀ T,t.put g (X0 h (d+g) % 2^g) (fun _ _=>T)=Gj T t d h
 | .leaf _ _,_,_,_,_,_=>⟨rfl,rfl,fun _=>rfl⟩
 | .node l r,g,d,p,hg,h20=>by
  simp only[Tr.high] at hg;obtain⟨m,rfl⟩:∃ m,g=m+1:=⟨g-1,oM⟩
  have h1:X0 h (d+(m+1))/2^m=X0 h (d+1):=by
   have:=Yw hh m (d+1) oM;rwa [show d+1+m=d+(m+1) by omega] at this
  have h2:X0 h (d+(m+1)) % 2^(m+1)=X0 h (d+(m+1)) % 2^m+2^m*(X0 h (d+1) % 2):=by
   rw[dB,Nat.mod_mul,h1]
  have h3:X0 h (d+(m+1)) % 2^m<2^m:=rm _ (iu dC);have il:=XR hh l m (d+1) (2*p) oM oM;have ir:=XR hh r m (d+1) (2*p+1) oM oM;rw[show d+1+m=d+(m+1) by omega] at il ir;simp only[Tr.at_,Tr.put,look,Gj,vJ];by_cases hb:Av h d=true
  .have P4:X0 h (d+1) % 2=1:=by simpa[Av] using hb
   rw[P4,Nat.mul_one] at h2;rw[h2,if_neg oM,if_pos hb,vJ];refine⟨ir.1,ir.2.1,fun T=>?_⟩;rw[if_neg oM,if_pos hb,ir.2.2 T]
  .have P4:X0 h (d+1) % 2=0:=by
    have:¬ X0 h (d+1) % 2=1:=(by simpa[Av] using hb);omega
   have h2:X0 h (d+(m+1)) % 2^(m+1)=X0 h (d+(m+1)) % 2^m:=by rw[h2,P4];simp
   rw[h2,if_pos h3,if_neg hb];refine⟨il.1,il.2.1,fun T=>?_⟩;rw[if_pos h3,if_neg hb,il.2.2 T]
def at_root (hh:h<18446744073709551616)(t:Tr)(g:Nat)(hg:t.high<=g)(h20:g<=20):(t.at_ g (X0 h g) 0 0).1=(look t 0 h).1/\(t.at_ g (X0 h g) 0 0).2.2.2=(look t 0 h).2/\∀ T,t.put g (X0 h g) (fun _ _=>T)=Gj T t 0 h:=by
 have:=XR hh t g 0 0 hg oM;rw[o8,Nat.mod_eq_of_lt (LI h20 hh)] at this;exact this
def Yb (f:Rf->List Bt->Tr):∀ (t:Tr) (g k:Nat),t.high<=g->t.put (g+1) (2*k) f=t.put g k f
 | .leaf r es,g,k,_=>rfl
 | .node l r,g,k,h=>by
  simp only[Tr.high] at h;have h2:=Tr.se (g:=g) oM;obtain⟨m,rfl⟩:∃ m,g=m+1:=⟨g-1,oM⟩
  simp only[Tr.put,vJ] at h2 ⊢;by_cases hlt:k<2^m
  .rw[if_pos oM,if_pos hlt,Yb f l m k oM]
  .rw[if_neg oM,if_neg hlt,show 2*k-2^(m+1)=2*(k-2^m) by omega,Yb f r m _ oM]
def Mx (t:Tr)(h:Nat):Option Bt:=bS (look t 0 h).2 h
def look_bare:∀ (t:Tr) (d h:Nat),look (bare t) d h=look t d h
 | .leaf _ _,_,_=>rfl
 | .node l r,d,h=>by simp only[bare,look,look_bare l,look_bare r]
def XB:∀ (t:Tr) (d p:Nat),ee t d p->ee (bare t) d p
 | .leaf _ _,_,_,h=>h
 | .node l r,d,p,h=>⟨XB l _ _ h.1,XB r _ _ h.2⟩
def sR0 (hh:h<18446744073709551616)(hg:t.high<=g)(h20:g<=20):vR t g h=(look t 0 h).2:=by
 unfold vR;rw[(at_root hh (bare t) g (by rw[qM];exact hg) h20).2.1,look_bare]
def look_ok (hh:h<18446744073709551616)(hg:t.high<=g)(h20:g<=20)(hok:ee t 0 0):∃ p,S8 (look t 0 h).1 p (look t 0 h).2:=by
 have h1:=Gb t g (X0 h g) 0 0 hok;obtain⟨e1,e2,-⟩:=at_root hh t g hg h20;rw[e1,e2] at h1;exact⟨_,h1⟩
end
section
open Go.ChangeShapes Go.WideShapes Go.RowKit Go.Sg Go.Deep Go.Joins
structure ut where
 kind:Int
 oldest:Int
 e:Bt
instance:Inhabited ut:=⟨⟨0,0,⟨0,0,0,0⟩⟩⟩
structure Ym (x:ut):Prop where
 wk:(Lit.int .i64 x.kind).wf=true
 wo:(Lit.int .i64 x.oldest).wf=true
 wh:x.e.hash<18446744073709551616
 wr:(Lit.int .i64 x.e.rg).wf=true
 wa:(Lit.int .i64 x.e.at_).wf=true
 ws:(Lit.int .i64 x.e.sz).wf=true
structure FX (w:w9)(a:Option Addr)(l:List ut):Prop where
 at_:∀ (i:Nat) (x:ut),l[i]?=some x->∃ b off,a=some ⟨b,off,none⟩/\b<w.heap.size/\(w.cell? (aA b (off+i*6))=some (iI x.kind)/\w.cell? (aA b (off+i*6+1))=some (iI x.oldest))/\(w.cell? (aA b (off+i*6+2))=some (iU x.e.hash)/\w.cell? (aA b (off+i*6+3))=some (iI x.e.rg)/\w.cell? (aA b (off+i*6+4))=some (iI x.e.at_)/\w.cell? (aA b (off+i*6+5))=some (iI x.e.sz))/\Ym x
def FX.fr {w w':w9}{a:Option Addr}{l:List ut}(h:FX w a l)(F:Fq w w'):FX w' a l:=
 ⟨fun i x hx=>by
  obtain⟨b,off,h1,h2,⟨h3,h4⟩,⟨h5,h6,h7,h8⟩,h9⟩:=h.at_ i x hx;exact⟨b,off,h1,E4 h2 F.size,⟨(F.cell (p:=⟨b,_,none⟩) h2 id).trans h3,(F.cell (p:=⟨b,_,none⟩) h2 id).trans h4⟩,⟨(F.cell (p:=⟨b,_,none⟩) h2 id).trans h5,(F.cell (p:=⟨b,_,none⟩) h2 id).trans h6,(F.cell (p:=⟨b,_,none⟩) h2 id).trans h7,(F.cell (p:=⟨b,_,none⟩) h2 id).trans h8⟩,h9⟩⟩
section
variable {H:Type}{enc:TypeId × Value->H}{W:w9}
def vd0:prog.cellsOf 110=4:=by kernel_rfl
def va0:prog.cellsOf 112=6:=by kernel_rfl
def qZ0:∃ f0 f1 f2 f3:Field,prog.underlying 110=some (.struct #[f0,f1,f2,f3])/\(f0.offset=0/\f0.type=29)/\(f1.offset=1/\f1.type=3)/\(f2.offset=2/\f2.type=3)/\(f3.offset=3/\f3.type=3):=⟨_,_,_,_,underlying110,⟨rfl,rfl⟩,⟨rfl,rfl⟩,⟨rfl,rfl⟩,⟨rfl,rfl⟩⟩
def ny0:∃ f0 f1 f2:Field,prog.underlying 112=some (.struct #[f0,f1,f2])/\(f0.offset=0/\f0.type=3)/\(f1.offset=1/\f1.type=3)/\(f2.offset=2/\f2.type=110):=⟨_,_,_,underlying112,⟨rfl,rfl⟩,⟨rfl,rfl⟩,⟨rfl,rfl⟩⟩
def nZ0 {fuel:Nat}{cs:List Value}{x:DataW H × List MemPlace}(h:DataW.trod enc prog W 0 (fun _=>true) true fuel 110 cs=some x) :
  ∃ (hh:Nat) (r p s:Int),(cs[0]?=some (.int .u64 hh)/\cs[1]?=some (.int .i64 r)/\cs[2]?=some (.int .i64 p)/\cs[3]?=some (.int .i64 s))/\hh<18446744073709551616/\(Lit.int .i64 r).wf=true/\(Lit.int .i64 p).wf=true/\(Lit.int .i64 s).wf=true:=by
 obtain⟨f0,f1,f2,f3,he,h0,h1,h2,h3⟩:=qZ0;obtain⟨ys,n',_,_,hl,kJ,hg⟩:=DataW.trod_struct he h;rw[vd0] at hl;have one:∀ (j:Nat) (f:Field),(#[f0,f1,f2,f3]:Array Field)[j]?=some f->f.offset=j->f.type=3->j<4->∃ z,cs[j]?=some (.int .i64 z)/\(Lit.int .i64 z).wf=true:=by
  intro j f hj ho Wf Vh;have h3:=hg j f hj;have jG:ys[j]?=some (ys[j]'(by rw[kJ];exact Vh)):=gE _;rw[jG,Wf] at h3;obtain⟨z,hz,_,hw⟩:=DataW.trod_int underlying3 h3;refine⟨z,?_,hw⟩;have h4:((cs.drop f.offset).take (prog.cellsOf 3))[0]?=some (.int .i64 z):=by rw[hz];rfl
  rw[gT] at h4;split at h4
  .simpa[ho] using h4
  .cases h4
 obtain⟨hh,e0,w0⟩:∃ hh:Nat,cs[0]?=some (.int .u64 hh)/\hh<18446744073709551616:=by
  have h3:=hg 0 f0 rfl;have jG:ys[0]?=some (ys[0]'(by rw[kJ];exact (show 0<4 by decide))):=gE _;rw[jG,h0.2] at h3;obtain⟨z,hz,_,hw⟩:=DataW.trod_int underlying29 h3;have J1:0<=z/\z<18446744073709551616:=by simp[Lit.wf,IntKind.min,IntKind.max,IntKind.signed,IntKind.bits] at hw;omega
  obtain⟨zn,rfl⟩:=iZ J1.1;refine⟨zn,?_,oM⟩;have h4:((cs.drop f0.offset).take (prog.cellsOf 29))[0]?=some (.int .u64 zn):=by rw[hz];rfl
  rw[gT] at h4;split at h4
  .simpa[h0.1] using h4
  .cases h4
 obtain⟨z1,e1,w1⟩:=one 1 f1 rfl h1.1 h1.2 oM;obtain⟨z2,e2,w2⟩:=one 2 f2 rfl h2.1 h2.2 oM;obtain⟨z3,e3,w3⟩:=one 3 f3 rfl h3.1 h3.2 oM;exact⟨hh,z1,z2,z3,⟨e0,e1,e2,e3⟩,w0,w1,w2,w3⟩
end
end
section
open Go.RowKit Go.Sg Go.Sg.Bits Go.Sg.r4 CP SF
def Wz {E:Bt}{o c:Int}:∀ (f:Nat) (t:Tr) (g:Nat) (sp:Int),sp+c=t.refs.length->(eo f t g sp E o).sp+c=(eo f t g sp E o).t.refs.length
 | 0,t,g,sp,h=>h
 | n+1,t,g,sp,h=>by
  obtain⟨⟨D,p,r,es⟩,hz⟩:∃ z,t.at_ g (X0 E.hash g) 0 0=z:=⟨_,rfl⟩
  simp only[eo,hz];obtain⟨es',hes⟩:=eX (aL es E.hash o)
  rw[hes];have h1:=rZ (tY (r5 es' E)) 1 (fun _ _=>rfl) t g (X0 E.hash g);have h2:=rZ (jZ D es') 2 (fun _ _=>rfl) t (g+1) (2*X0 E.hash g);have h3:=rZ (jZ D es') 2 (fun _ _=>rfl) t g (X0 E.hash g);have h4:=rZ (tY (r5 (es'.eraseIdx (jx es' es'.length).toNat) E)) 1 (fun _ _=>rfl) t g (X0 E.hash g);by_cases hr:cy es' E.hash 3=true
  .rw[if_pos hr];show sp+c=_;simp only;omega
  .rw[if_neg hr];by_cases hD:D<3
   .rw[if_pos hD];by_cases hg:D=g
    .rw[if_pos hg];exact Wz n _ _ _ oM
    .rw[if_neg hg];exact Wz n _ _ _ oM
   .rw[if_neg hD];show sp+c=_;simp only;omega
def oB0 {B:P0}{w w':w9}{bx bd s sl most:Nat}{sp:Int}{x:P1}(h:O0 B (fun b=>b=bd\/b=bx) w w')(hD:N2 w bd s x)(hI:dG w bx s bd sl most sp)(hb:B.base<=bd/\B.base<=bx):D1 B.base w w':=Fr.mono h fun b _ hs=>by
 rcases hs with hs|rfl|rfl
 .exact⟨hs.1,fun c t f hc=>jH _ (jH _ (hs.2.1 c t f hc))⟩
 .exact⟨hb.1,fun c t f hc=>by rw[hD] at hc;cases hc;simp⟩
 .exact⟨hb.2,fun c t f hc=>by rw[hI] at hc;cases hc;simp⟩
section
variable {w0 V V':w9}{base bx k:Nat}{t:Tr}
def MC {t:Tr}(h:t.high<=3):t.refs.length<=8:=by
 have h1:=BK t;have h2:(2:Nat)^t.high<=2^3:=aZ dC h;omega
end
def xh0 {E:Bt}(hh:E.hash<18446744073709551616)(hb:ab E=false)(bx:Nat)(o:Int)(w:w9) :
  cP 64 #[O7 bx,E8 E,iI o] w fun e w'=>e = rT (tU #[bO false,iI 5])/\Fq w w':=by
 obtain⟨w1,I0⟩:=eX (w.alloc (.cells #[iU E.hash,iI E.rg,iI E.at_,iI E.sz] 118))
 have b1:=fB I0
 have F1:=fA I0
 have HF:=hid F1;have hx:=pB0 hh w1;rw[hb] at hx;have HX:=hid hx;obtain⟨t0,t1,t2,t3,tz,tl⟩:=D8 b1;have HW:=hid I0;clear I0 b1 F1 hx hb;go_enter func64,ntmps64;go_upto_region 1 with fail
 rw[HW];go_step3
 go_wp2_with fail
 refine HX.mono ?_;rintro e w2 ⟨rfl,F2⟩;have Y0:=hid (HF.trans F2 nI);clear F2 t0 t1 t2 t3 tz tl;go_wp2_with fail
 simp only[Exit.noGoto];go_ret2;exact⟨rfl,Y0.o⟩
end
end Go.Proofs.YtgdhaaokolfdoaaGreatDoor
namespace Go.Sg
open Go.RowKit
variable {F:Fence}{n:Nat}{P:Program}
def xT0 {α:Type}(F:Fence)(n:Nat)(P:Program)(g:Nat)(lb:Array Value)(encs:α->Array Value)(T:α->World->Prop)(R Kp:World->World->Prop)(S Sp:List α->Prop)(E:World->Prop)(N:Nat)(w:w9):Prop:=
 ∀ (l:Nat) (J Jx:List α->World->Prop) (W:w9),Below w.heap.size w W->OwnFrom W.heap.size J->OwnFrom W.heap.size Jx->(∀ pre A C,J pre A->R A C->J pre C) ->
  (∀ pre x W1,J pre W1->T x W1->pre.length<N->YieldAt F (n-1) P l (encs x) W1 fun e W'=>(e = rT (bO true)/\J (pre++[x]) W'/\Kp W1 W')\/(e = rT (bO false)/\Jx (pre++[x]) W')) ->
  J [] W->CallsIn F n P g (#[.func (.yield l) #[] #[]]++lb) W fun e W'=>(∃ v,e = rT v)/\((∃ xs,S xs/\J xs W'/\E W')\/(∃ pre,Sp pre/\Jx pre W'))
def jj0 {α:Type}{g:Operand}{ps:Array Tmp}{assign body:Code}{Q:Exit->Act->World->Prop}{a:Act}{w:w9}
  (hro:F.round=none) (h1:1<=n) {gf:Nat} {lb:Array Value} (hg:a.eval g = .func (.func gf) #[] lb) (Cb:F.fn gf) (eg:∀ args w,(callFunc gf args).run P w = .ok (.enter gf args) w)
  {encs:α->Array Value} {R Kp:World->World->Prop} {S Sp:List α->Prop} {E:World->Prop} {N:Nat} {w0:w9} {T:α->World->Prop} (I:List α->World->Prop) (gB:xT0 F (n-1) P gf lb encs T R Kp S Sp E N w0)
  (Uc:∀ pre A C,I pre A->R A C->I pre C) (Jh:∀ A C b o,R A C->w.heap.size<=b->A.heap[b]?=some o->o.isCells=false->C.heap[b]?=some o)
  (hE:∀ (W:w9) (l:Nat) (o o':Obj),w.heap.size<=l->W.heap[l]?=some o->o.isCells=false->o.isWalk=false->E W->E (W.putObj l o'))
  (mB:∀ {A B C:w9},Kp A B->Kp B C->Kp A C) (sC:∀ (W:w9) (l:Nat) (o o':Obj),w.heap.size<=l->W.heap[l]?=some o->o.isCells=false->o.isWalk=false->Kp W (W.putObj l o'))
  (d7:Below w0.heap.size w0 w) (aD:∀ x,(encs x).size=ps.size)
  (Ix:Code->List α->World->Prop) (hI:OwnFrom w.heap.size I) (sA:∀ c,OwnFrom w.heap.size (Ix c)) (h0:I [] w) (Ax:α->Act->World->Prop) (hAx:∀ x a',OwnFrom w.heap.size fun (_:Unit) W=>Ax x a' W)
  (z8:∀ (l:Nat) (pre:List α) (x:α) (W:w9) (K:Act->World->Prop),I pre W->T x W->(∀ a' W',KeepsFrom w.heap.size W W'->Kp W W'->I pre W'->Ax x a' W'->K a' W') ->
   assign.wpIn (F.inRound l) (n-1-1) P (Exit.then K fun _ _ _=>False) { tmps:=(ps.zip (encs x)).foldl (fun t (p,v)=>t.setIfInBounds p v) a.tmps,defers:=[] } W)
  (au:∀ (l:Nat) (pre:List α) (x:α) (a':Act) (W:w9),w.heap.size<=l->(∃ r,W.heap[l]?=some (.loop r))->I pre W->Ax x a' W->pre.length<N->body.wpIn (F.inRound l) (n-1-1) P (Xi w.heap.size Kp I Ix (pre++[x]) W) a' W)
  (hdone:∀ (D:Nat) (xs:List α) (W:w9),w.heap.size<=D->S xs->I xs W->E W->W.heap[D]?=some (.deferred (some []))->Q .normal { a with defers:={ target:=.collected D,args:=#[] } :: a.defers } W)
  (kH:∀ (D:Nat) (c:Code) (pre:List α) (W:w9),w.heap.size<=D->Sp pre->Ix c pre W->W.heap[D]?=some (.deferred (some []))->c.wpIn F n P Q { a with defers:={ target:=.collected D,args:=#[] } :: a.defers } W) :
  (Code.rangeFunc g ps assign body).wpIn F n P Q a w:=by
 refine wpIn_rangeFunc fun fn U9=>?_
 rw[hro];-- the loop's record,in whatever state
 let nh:LoopState->Option Code->Loop:=fun st pe=>{ state:=st,pending:=pe,fn,tmps:=a.tmps,params:=ps,assign,body,defers:=w.heap.size }
 obtain⟨rd,B8⟩:=xe nh
 have oE:∀ st pe,(rd st pe).state=st:=fun st pe=>by rw[B8]
 have vM:∀ st pe,(rd st pe).pending=pe:=fun st pe=>by rw[B8]
 obtain⟨L,hL⟩:=xe (w.heap.size+1)
 obtain⟨W1,M2⟩:=eX ((w.alloc (.deferred (some []))).alloc (.loop (rd .ready none)))
 obtain⟨BW,gh,F1⟩:=n9 M2;rw[<- hL] at gh;have I9:I [] W1:=by rw[<- M2];exact hI.alloc _ (hI.alloc _ h0)
 have E5:Below w0.heap.size w0 W1:=by
  refine d7.trans ((Fr.below (S:=fun _=>False) F1 nI).mono d7.size)
 have E3:W1.heap.size=w.heap.size+2:=by rw[<- M2];simp
 refine⟨L,[{ target:=.collected w.heap.size,args:=#[] }],W1,{ target:=.fn (.func gf) lb,args:=#[.func (.yield L) #[] #[]] },W1,gf,#[.func (.yield L) #[] #[]]++lb,W1,?_,?_,?_,?_,fun _=>h1,?_⟩
 .rw[<- M2,hL,B8];exact run_enterLoop_outer _ _ _ _ _
 .simp only[resolve,hg];simp[go_sem]
 .intro f' pJ;simp[Target.leads] at pJ;subst pJ;exact Cb
 .simp[invoke,go_sem,eg]
 have aE:∀ {A:w9} {row:Option Nat},(∀ r,row=some r->W1.heap.size<=r/\∃ o:Obj,A.heap[r]?=some o/\o.isCells=false)->(∀ r,row=some r->w.heap.size<=r/\∃ o:Obj,A.heap[r]?=some o/\o.isCells=false):=
  fun hr r e=>by obtain⟨hB,h⟩:=hr r e;exact⟨oM,h⟩
 have hold:∀ {A B:w9} {row:Option Nat} {b:Nat} {o:Obj},A.grownBy B row->(∀ r,row=some r->W1.heap.size<=r/\∃ o:Obj,A.heap[r]?=some o/\o.isCells=false)->b<W1.heap.size->A.heap[b]?=some o->B.heap[b]?=some o:=
  fun I1 hr hb ho=>(I1.block _ (M0 ho) fun e=>by have:=(hr _ e.symm).1;omega).trans ho
 have hY:∀ pre x W,(I pre W/\W.heap[L]?=some (.loop (rd .ready none))/\W.heap[w.heap.size]?=some (.deferred (some [])))->T x W->pre.length<N ->
   YieldAt F (n-1-1) P L (encs x) W fun e W'=>(e = rT (bO true)/\(I (pre++[x]) W'/\W'.heap[L]?=some (.loop (rd .ready none))/\W'.heap[w.heap.size]?=some (.deferred (some [])))/\Kp W W') \/
    (e = rT (bO false)/\∃ c,Ix c (pre++[x]) W'/\W'.heap[L]?=some (.loop (rd .done (some c)))/\W'.heap[w.heap.size]?=some (.deferred (some []))):=by
  rintro pre x W ⟨hi,hl,hk⟩ hT hlen;have hy:=run_yield (P:=P) (args:=encs x) hl (by rw[B8];exact aD x);rw[B8] at hy;refine⟨fn,_,assign,body,hy,roundIn_of_wpIn U9 (z8 _ pre x W _ hi hT fun a' Wa tA M4 CU Cp=>?_)⟩;have M8:=tA.same _ _ oM hl rfl;have mR:=tA.same _ _ (nR _) hk rfl;have hlt:L<Wa:=M0 M8;refine⟨_,run_beginRound M8 (oE _ _),?_⟩;obtain⟨busy,K9⟩:∃ busy:Loop,{ rd .ready none with state:=.busy }=busy:=⟨_,rfl⟩
  rw[K9];have A8:(Wa.putObj L (.loop busy)).heap[L]?=some (.loop busy):=World.putObj_heap_same hlt;have iY:(Wa.putObj L (.loop busy)).heap[w.heap.size]?=some (.deferred (some [])):=(World.putObj_heap_other oM).trans mR;refine wpIn_mono (au _ pre x a' _ oM ⟨_,A8⟩ (hI.putObj _ CU oM M8 rfl) ((hAx x a').putObj (s:=()) _ Cp oM M8 rfl) hlen) ?_;have fin:∀ (jump:Option Code) (W3:w9),KeepsFrom w.heap.size (Wa.putObj L (.loop busy)) W3 ->
    (Instr.endRound L jump).run P W3 = .ok (bO jump.isNone) (W3.putObj L (.loop (rd (if jump.isNone then .ready else .done) jump)))/\W3.heap[L]?=some (.loop busy) /\
    (W3.putObj L (.loop (rd (if jump.isNone then .ready else .done) jump))).heap[L]?=some (.loop (rd (if jump.isNone then .ready else .done) jump)) /\
    (W3.putObj L (.loop (rd (if jump.isNone then .ready else .done) jump))).heap[w.heap.size]?=some (.deferred (some [])):=fun jump W3 Q2=>by
   have Y8:=Q2.same _ _ oM A8 rfl;refine⟨?_,Y8,World.putObj_heap_same (M0 Y8),(World.putObj_heap_other oM).trans (Q2.same _ _ (nR _) iY rfl)⟩;have:=run_endRound (P:=P) jump Y8;rw[<- K9,B8] at this;rw[B8];exact this
  have A9:Kp Wa (Wa.putObj L (.loop busy)):=sC _ _ _ _ oM M8 rfl rfl;rintro e a3 W3 hp;have out:∀ c,KeepsFrom w.heap.size (Wa.putObj L (.loop busy)) W3/\Ix c (pre++[x]) W3->∃ v W4,(Instr.endRound L (some c)).run P W3 = .ok v W4/\((rT v = rT (bO true)/\(I (pre++[x]) W4/\W4.heap[L]?=some (.loop (rd .ready none))/\W4.heap[w.heap.size]?=some (.deferred (some [])))/\Kp W W4) \/
    (rT v = rT (bO false)/\∃ c,Ix c (pre++[x]) W4/\W4.heap[L]?=some (.loop (rd .done (some c)))/\W4.heap[w.heap.size]?=some (.deferred (some [])))):=by
   rintro c ⟨Q2,pK⟩;obtain⟨hr,Y8,ja,pL⟩:=fin (some c) W3 Q2;exact⟨_,_,hr,.inr ⟨rfl,c,(sA c).putObj _ pK oM Y8 rfl,ja,pL⟩⟩
  cases e with
  | normal =>
   obtain⟨Q2,mS,pK⟩:=hp;obtain⟨hr,Y8,ja,pL⟩:=fin none W3 Q2;exact⟨_,_,hr,.inl ⟨rfl,⟨hI.putObj _ pK oM Y8 rfl,ja,pL⟩,mB M4 (mB (mB A9 mS) (sC _ _ _ _ oM Y8 rfl rfl))⟩⟩
  | ret=>exact out _ hp
  | exit id=>exact out _ hp
  | goto t=>exact out _ hp
  | panic ch=>exact hp.elim
  | outgrown=>exact hp.elim
 have eZ:=gB L (fun pre W=>I pre W/\W.heap[L]?=some (.loop (rd .ready none))/\W.heap[w.heap.size]?=some (.deferred (some [])))
  (fun pre W=>∃ c,Ix c pre W/\W.heap[L]?=some (.loop (rd .done (some c)))/\W.heap[w.heap.size]?=some (.deferred (some []))) W1 E5
  (fun s A B row hs I1 hr=>⟨hI s A B row hs.1 I1 (aE hr),hold I1 hr oM hs.2.1,hold I1 hr oM hs.2.2⟩)
  (fun s A B row hs I1 hr=>by
   obtain⟨c,hc,hl,hk⟩:=hs;exact⟨c,sA c s A B row hc I1 (aE hr),hold I1 hr oM hl,hold I1 hr oM hk⟩)
  (fun pre A C hj hR=>⟨Uc pre A C hj.1 hR,Jh A C _ _ hR oM hj.2.1 rfl,Jh A C _ _ hR (nR _) hj.2.2 rfl⟩)
  hY ⟨I9,gh,BW⟩
 refine eZ.mono ?_;rintro e W2 ⟨⟨v,rfl⟩,(⟨xs,hS,⟨hi,hl,hk⟩,hEn⟩|⟨pre,mF,c,hi,hl,hk⟩)⟩
 .have hr:=run_endLoop (P:=P) hl (by rw[oE];simp);rw[vM] at hr;exact⟨none,_,hr,hdone _ xs _ (nR _) hS (hI.putObj _ hi oM hl rfl) (hE _ _ _ _ oM hl rfl rfl hEn) ((World.putObj_heap_other oM).trans hk)⟩
 .have hr:=run_endLoop (P:=P) hl (by rw[oE];simp);rw[vM] at hr;exact⟨some c,_,hr,kH _ c pre _ (nR _) mF ((sA c).putObj _ hi oM hl rfl) ((World.putObj_heap_other oM).trans hk)⟩
end Go.Sg
namespace Go.Proofs.YtgdhaaokolfdoaaGreatDoor
open Go.RowKit Go.Sg Go.Sg.Bits Go.Sg.r4 CP SF Tryz
abbrev Sd:=Nat × Nat × Rf × List Bt
def iJ:Tr->Nat->Nat->Nat->List Sd
 | .leaf r es,g,d,p=>List.replicate (2^g) (d,p,r,es)
 | .node l r,g,d,p=>iJ l (g-1) (d+1) (2*p)++iJ r (g-1) (d+1) (2*p+1)
def eG:Tr->Nat->Nat->List Sd
 | .leaf r es,d,p=>[(d,p,r,es)]
 | .node l r,d,p=>eG l (d+1) (2*p)++eG r (d+1) (2*p+1)
def EK:∀ (t:Tr) (g d p:Nat),(iJ t g d p).map (·.2.2.1)=t.slots g
 | .leaf r es,g,d,p=>by simp[iJ,Tr.slots]
 | .node l r,g,d,p=>by simp only[iJ,Tr.slots,B9,EK l,EK r]
def Il (t:Tr)(g d p:Nat)(h:t.high<=g):(iJ t g d p).length=2^g:=by
 have:=congrArg List.length (EK t g d p);rw[Z8,Tr.uO t g h] at this;exact this
def Og:∀ (t:Tr) (g d p:Nat) (s:Sd),s ∈ iJ t g d p->s ∈ eG t d p
 | .leaf r es,g,d,p,s,h=>by
  have:=Ad h;simp[eG,this]
 | .node l r,g,d,p,s,h=>by
  simp only[iJ,eG,X5] at h ⊢;exact h.imp (Og l _ _ _ s) (Og r _ _ _ s)
def EQ:∀ (t:Tr) (d p:Nat),aj t d p=(eG t d p).map fun s=>(s.2.2.1,Z6 s.1 s.2.1 s.2.2.2)
 | .leaf r es,d,p=>rfl
 | .node l r,d,p=>by simp only[aj,eG,B9,EQ l,EQ r]
def QM:∀ (t:Tr) (d p:Nat),ee t d p->p<2^d->∀ s ∈ eG t d p,S8 s.1 s.2.1 s.2.2.2/\s.2.1<2^s.1/\d<=s.1/\s.1<=d+t.high
 | .leaf r es,d,p,h,hp,s,hs=>by
  simp only[eG,mZ] at hs;subst hs;exact⟨h,hp,nR _,Nat.le_add_right _ _⟩
 | .node l r,d,p,h,hp,s,hs=>by
  simp only[eG,X5] at hs;simp only[Tr.high];have e:2^(d+1)=2^d*2:=dB ..;rcases hs with hs|hs
  .obtain⟨h1,h2,h3,h4⟩:=QM l _ _ h.1 oM s hs;exact⟨h1,h2,oM,oM⟩
  .obtain⟨h1,h2,h3,h4⟩:=QM r _ _ h.2 oM s hs;exact⟨h1,h2,oM,oM⟩
def mi0 {α β:Type}{f:α->β}:∀ {l:List α},(l.map f).Nodup->∀ {x y:α},x ∈ l->y ∈ l->f x=f y->x=y
 | [],_,x,y,hx,_,_=>by cases hx
 | a :: l,h,x,y,hx,hy,e=>by
  rw[qf,List.nodup_cons] at h;rcases d9.1 hx with e1|C6
  .rcases d9.1 hy with e2|hy'
   .rw[e1,e2]
   .refine absurd ?_ h.1;rw[<- e1,e];exact List.mem_map_of_mem hy'
  .rcases d9.1 hy with e2|hy'
   .refine absurd ?_ h.1;rw[<- e2,<- e];exact List.mem_map_of_mem C6
   .exact mi0 h.2 C6 hy' e
variable {t:Tr}{L:List Bp}{s:Sd}{N bo m:Nat}{A C D w w':w9}{S:Nat->Prop}{a:Bool}
def zi0 (hn:(X6 L).Nodup)(hP:L.Perm (aj t 0 0)){s':Sd}(hs:s ∈ eG t 0 0)(fO:s' ∈ eG t 0 0)(e:s.2.2.1=s'.2.2.1):s=s':=by
 have h1:((aj t 0 0).map fun q=>q.1.1.toNat).Nodup:=(hP.map _).nodup_iff.1 hn;rw[EQ,xY] at h1;exact mi0 h1 hs fO (by simp only[Function.comp_apply,e])
def xD0 (hP:L.Perm (aj t 0 0))(hs:s ∈ eG t 0 0):(s.2.2.1,Z6 s.1 s.2.1 s.2.2.2) ∈ L:=by
 rw[hP.mem_iff,EQ];exact N4.2 ⟨s,hs,rfl⟩
def qH (bo:Nat)(A:w9)(g:Nat):Prop:=∃ v:Value,A.heap[bo]?=some (.cells #[v] 124)/\v.ownBlock=some g
def Rc (bo:Nat)(A:w9)(g:Nat):Prop:=qH bo A g/\∃ c f,A.heap[g]?=some (.cells c 131 f)
def qj (bo:Nat)(A:w9):Prop:=∃ v:Value,A.heap[bo]?=some (.cells #[v] 124)
structure kT (m bo:Nat)(A C:w9):Prop where
 os:C.os=A.os
 tape:C.tape=A.tape
 output:C.output=A.output
 size:A<=(C:Nat)
 keep:∀ b o,A.heap[b]?=some o->b≠bo->¬ Rc bo A b->(b<m\/o.isCells=true)->C.heap[b]?=some o
 pt:∀ g,qH bo C g->A.heap.size<=g\/qH bo A g
 box:qj bo A->qj bo C
def kT.trans (h:kT m bo A C)(k:kT m bo C D):kT m bo A D:=by
 refine⟨k.os.trans h.os,k.tape.trans h.tape,k.output.trans h.output,nT h.size k.size,fun b o hb hne hno hc=>?_,fun g hg=>?_,fun hb=>k.box (h.box hb)⟩
 .have h1:=h.keep b o hb hne hno hc;refine k.keep b o h1 hne (fun⟨hp,c,f,hcf⟩=>?_) hc;rcases h.pt b hp with hp|hp
  .have:=M0 hb;omega
  .rw[h1] at hcf;cases hcf;exact hno ⟨hp,c,f,hb⟩
 .rcases k.pt g hg with h1|h1
  .exact .inl (nT h.size h1)
  .exact h.pt g h1
structure Acc (bo:Nat)(A C:w9):Prop where
 size:A<=(C:Nat)
 keep:∀ b c t f,A.heap[b]?=some (.cells c t f)->t ∉ 131 :: aR->b≠bo->C.heap[b]?=some (.cells c t f)
 pt:∀ g,qH bo C g->A.heap.size<=g\/qH bo A g
 box:qj bo C
def Acc.refl (h:qj bo A):Acc bo A A:=⟨nR _,fun _ _ _ _ h _ _=>h,fun _ h=>.inr h,h⟩
def Acc.trans (h:Acc bo A C)(k:Acc bo C D):Acc bo A D:=
 ⟨nT h.size k.size,fun b c t f hb ht hne=>k.keep b c t f (h.keep b c t f hb ht hne) ht hne,fun g hg=>(k.pt g hg).elim (fun h1=>.inl (nT h.size h1)) (h.pt g),k.box⟩
def kT.acc (h:kT m bo A C)(hb:qj bo A):Acc bo A C:=
 ⟨h.size,fun b c t f hc ht hne=>h.keep b _ hc hne (fun⟨_,c',f',e⟩=>by rw[hc] at e;cases e;exact ht sP) (.inr rfl),h.pt,h.box hb⟩
variable {B:P0}
def D0.acc (h:D0 B A C)(hb:qj bo A):Acc bo A C:=by
 obtain⟨v,hv⟩:=hb;have hc:=h.heap hv dC;refine⟨h.size,fun b c t f hc ht hne=>h.heap hc fun hm=>ht (jH _ hm),fun g ⟨v',hv',ho⟩=>?_,⟨v,hc⟩⟩;rw[hc] at hv';cases hv';exact .inr ⟨v,hv,ho⟩
def X1.BS {x:T3}(h:X1 w B x)(F:Fr S w w')(h1:∀ r,¬ S (B.at_ r))(h4:∀ g c' t',t' ∈ 5 :: aR->w.heap[g]?=some (.cells c' t')->¬ S g):X1 w' B x:=by
 refine⟨F.heap h.s (h1 .s),h.dev.fr F (h1 .d) (h1 .bf) (h1 .bq) fun g c' t' h5 hg=>h4 g c' t' (by rcases h5 with rfl|rfl|rfl <;> decide) hg,h.bits.fr F (h1 .bs) (h1 .bw),h.fr.fr F (h1 .fr),h.dy.fr F (h1 .dy),h.de.fr F (h1 .de),h.mem.fr F (h1 .bc) (h1 .bp) (h1 .bm),fun k p hp=>?_,h.ne,h.ge,h.rg,h.inr⟩;obtain⟨bs,hb,hl⟩:=h.load k p hp;exact⟨bs,hb.fr F fun b c hc=>h4 b c 5 dC hc,hl⟩
variable {y:Cs}{P:J2}
def C1.BS (h:C1 w B y P a N)(F:Fr S w w')(h1:∀ r,¬ S (B.at_ r))(h4:∀ g c' t',t' ∈ 5 :: aR->w.heap[g]?=some (.cells c' t')->¬ S g)(h0:¬ S 0):C1 w' B y P a N:=by
 obtain⟨⟨x,c,hS,hy,hi⟩,hT,hb⟩:=h;exact⟨⟨x,c,hS.BS F h1 h4,hy,{ hi with holds:=⟨hi.holds.ok,fun k q hq=>by obtain⟨st,bs,e1,e2,e3,e4⟩:=hi.holds.mem k q hq;exact⟨st,bs,e1,e2,e3.fr F fun b c hc=>h4 b c 5 dC hc,e4⟩,hi.holds.dev⟩ }⟩,hT.fr F h0,hb⟩
def C1.roles (h:C1 w B y P a N)(r:r8):B.at_ r<w:=by
 obtain⟨⟨x,c,hS,hy,hi⟩,hT,hb⟩:=h;exact (hS.heaps r).2.2.1
def C1.XZ (h:C1 w B y P a N)(r:r8){c:Array Value}{t:TypeId}{f:Nat × Nat}(hc:w.heap[B.at_ r]?=some (.cells c t f)):t ∈ aR:=by
 obtain⟨⟨x,c',hS,hy,hi⟩,hT,hb⟩:=h;exact (hS.heaps r).2.1 c t f hc
section
variable {B:P0}{bx bd:Nat}{y:Cs}{P:J2}{a:Bool}{N:Nat}{x:P1}{E0 slots:List Rf}{L:List Bp}{sp:Int}
def Y1.BS {S:Nat->Prop}{w w':w9}(h:Y1 w B bx bd y P a N x E0 slots L sp)(F:Fr S w w')(h1:∀ r,¬ S (B.at_ r))(h4:∀ g c' t',t' ∈ 5 :: 227 :: 209 :: aR->w.heap[g]?=some (.cells c' t')->¬ S g)(h0:¬ S 0):Y1 w' B bx bd y P a N x E0 slots L sp:=
 { h with
  st:=h.st.BS F h1 (fun g c t ht hg=>h4 g c t (by simp only[d9] at ht ⊢;rcases ht with ht|ht <;> simp[ht]) hg) h0
  idx:=F.heap h.idx (h4 bx _ 227 sP h.idx)
  dir:=F.heap h.dir (h4 bd _ 209 sP h.dir) }
def Y1.Xh {m bo:Nat}{A C:w9}(h:Y1 A B bx bd y P a N x E0 slots L sp)(K:kT m bo A C)(hm:∀ r,B.at_ r<m)(cC:qj bo A/\0<bo)(hp:∀ g,qH bo A g->0<g)(h0:0<m):Y1 C B bx bd y P a N x E0 slots L sp:=by
 have F:Fr (fun b=>b=bo\/Rc bo A b\/(m<=b/\∃ o,A.heap[b]?=some o/\o.isCells=false)) A C:=
  ⟨K.os,K.tape,K.output,K.size,fun b hb hs=>by
   simp only[not_or] at hs;obtain⟨o,ho⟩:∃ o,A.heap[b]?=some o:=⟨_,Qe hb⟩
   rw[ho];refine K.keep b o ho hs.1 hs.2.1 ?_;by_cases xo:b<m
   .exact .inl xo
   .cases hc:o.isCells with
    | true=>exact .inr rfl
    | false=>exact absurd ⟨oM,o,ho,hc⟩ hs.2.2⟩
 obtain⟨⟨v,hv⟩,hbo0⟩:=cC;refine h.BS F (fun r hs=>?_) (fun g c' t' ht hg hs=>?_) fun hs=>?_
 .rcases hs with e|⟨-,c,f,hc⟩|⟨hb,-⟩
  .rw[<- e] at hv;exact absurd (h.st.XZ r hv) dC
  .exact absurd (h.st.XZ r hc) dC
  .have:=hm r;omega
 .rcases hs with e|⟨-,c,f,hc⟩|⟨hb,o,ho,hc⟩
  .rw[e,hv] at hg;cases hg;exact absurd ht dC
  .rw[hg] at hc;cases hc;exact absurd ht dC
  .rw[hg] at ho;cases ho;cases hc
 .rcases hs with e|⟨eB,-⟩|⟨hb,-⟩
  .omega
  .have:=hp 0 eB;omega
  .omega
def Y1.Zh {m:Nat}{W:w9}{l:Nat}{o o':Obj}(h:Y1 W B bx bd y P a N x E0 slots L sp)(hl:m<=l)(hm:∀ r,B.at_ r<m)(h0:0<m)(ho:W.heap[l]?=some o)(hc:o.isCells=false):Y1 (W.putObj l o') B bx bd y P a N x E0 slots L sp:=
 h.BS (S:=fun b=>b=l) ((Fr.refl (fun b=>b=l) W).putObj (fun _=>rfl) o') (fun r e=>by have:=hm r;omega) (fun g c t _ hg e=>by rw[e,ho] at hg;cases hg;cases hc) oM
