/- A pack of texts. Conditions: those that each names. -/
import Derived.Test.YtgdhaaokolfdoaaGreatDoorNBC
set_option maxHeartbeats 16000000
set_option maxRecDepth 100000
set_option linter.all false
namespace Go.Proofs.YtgdhaaokolfdoaaGreatDoor
section
open Go.RowKit Go.Sg Go.Sg.Bits Go.Sg.Clk CP SF
variable {B:Blk}{X:Nat->Prop}{w w':World}{v:Value}{N bd bx d g p:Nat}{a:Bool}{sp:Int}
theorem bC0 {Y:Nat->Prop}(F:FrX B X w w')(h:∀ b,X b->Y b):FrX B Y w w':=Fr.mono F fun b _ hs=>hs.imp id (h b)
theorem mX0 {b e size n:Nat}{xs:List Value}(h:w.ownsRow b e size v n xs)(he:e ∉ em0)(F:FrX B X w w')(hX:∀ g,v.ownBlock=some g->¬ X g):w'.ownsRow b e size v n xs:=by
 obtain⟨hl,h0|⟨g,cap,cur,hv,hb,hg,r⟩⟩:=h
 ·exact⟨hl,.inl h0⟩
 ·exact⟨hl,.inr ⟨g,cap,cur,hv,hb,cW0 F hg he (hX g (by rw[hv];rfl)),r⟩⟩
variable {y:Cs}{x:aL0}{slots au0:List Rf}{L:List Bp}
theorem aD0.splits {P:aC0}(h:aD0 w B bx bd y P a N x au0 slots L sp)(z:Int):aD0 (w.setCell ⟨bx,4,none⟩ (.int .i64 z)) B bx bd y P a N x au0 slots L z:=by
 have F:Fr (fun k=>k=bx) w (w.setCell ⟨bx,4,none⟩ (.int .i64 z)):=(Fr.refl (fun k=>k=bx) w).setCell (a:=⟨bx,_,none⟩) (fun _=>rfl) _;have h0:0<bx:=nLL h.st.base h.base.2;refine { h with st:=h.st.frL F h.idx dC h0,idx:=?_,dir:=F.heap h.dir (fun e=>h.gR0.2.2 e.symm) };show (w.setCell ⟨bx,4,none⟩ (.int .i64 z)).heap[bx]?=_;rw[hsc _ _ _ _ h.idx];rfl
theorem jv0 {i:Nat}(hd:d+1<=g)(hi:i ∈ slN (2*p*2^(g-(d+1))) (2^(g-(d+1)))):i ∈ slN (p*2^(g-d)) (2^(g-d))/\i ∉ slN ((2*p+1)*2^(g-(d+1))) (2^(g-(d+1))):=by
 have e:2^(g-d)=2*2^(g-(d+1)):=by
  rw[show g-d=g-(d+1)+1 by omega,lK9];omega
 rw[e];generalize 2^(g-(d+1))=q at *
 have e2:p*(2*q)=2*p*q:=by rw[<- mR9,lJ9 p 2]
 rw[e2,show (2*p+1)*q=2*p*q+q by rw[nj9,Nat.one_mul]];generalize 2*p*q=z at *
 simp only[is0] at hi ⊢;omega
def yY0 (B:Blk)(bx bd:Nat)(y:Cs)(P:aC0)(a:Bool)(N:Nat)(g:Nat)(slots:List Rf)(S0 S1:List Nat)(L:List Bp)(j:Nat)(l0 l1:List Int)(sp:Int)(w:World)(e:Ending)(w':World):Prop:=
 ∃ err,e = .returned (.int .i64 err)/\FrX B (fun b=>b=bd\/b=bx) w w'/\((err=0/\∃ (m0 m1:Nat) (y':Cs) (x':aL0) (tops':List Rf),aD0 w' B bx bd y' P a N x' tops' (bQ0 (bQ0 slots S1 ((m1:Int),(y.gen:Int))) S0 ((m0:Int),(y.gen:Int))) ((L++[(((m1:Int),(y.gen:Int)),l1)]).set j (((m0:Int),(y.gen:Int)),l0)) sp/\x'.depth=g/\(Like y y'/\y'.gen=y.gen/\y'.dead=y.dead))\/(err=4/\a=true/\aP0 w' B y P N))
theorem tv0 {P:aQ0}(h:aD0 w B bx bd y P a N x au0 slots L sp){r:Rf}{j:Nat}{es:List Bt}{ld0:List Int}{sl':List Rf}(hj:L[j]?=some (r,ld0))(hE:bm0 w 0 v es)(hk:dn0 d p es)(hd:d<=x.depth)(hd3:d<3)(hp:p<2^d)(hL:L.length<10)(hsp:0<=sp/\sp<=100000)
  (hg:d=x.depth/\g=x.depth+1/\sl'=gv0 slots\/d≠x.depth/\g=x.depth/\sl'=slots)
  (hsl:∀ i ∈ slN (p*2^(g-d)) (2^(g-d)),sl'[i]?=some r) (hN:N+141<=90000) :
  Calls Tryz.prog 133 #[cG0 bx,eh0 r d p v] w (yY0 B bx bd y P a (N+141) g sl' (slN (2*p*2^(g-(d+1))) (2^(g-(d+1)))) (slN ((2*p+1)*2^(g-(d+1))) (2^(g-(d+1)))) L j (aA0 (d+1) (2*p) (es.filter fun x=>!be0 d x)) (aA0 (d+1) (2*p+1) (es.filter (be0 d))) (sp+1) w):=by
 obtain⟨va,vc,rfl,-,-,-,-⟩:=oSl hE;obtain⟨n,hn⟩:=eX es.length
 have hsm:=h.small;have hp20:p<1048576:=nLL hp (nT (lc9 dC (by omega:d<=20)) dC);have HSW:=hid (show wrap64 (sp+1)=sp+1 by simp only[wrap64];omega);have hblt:=h.gR0;obtain⟨w1,hw1⟩:=eX (w.alloc (.cells #[.int .i64 r.1,.int .i64 r.2,.int .i64 d,.int .i64 p,.slice va n vc] 131))
 have b3:w1.heap[w.heap.size]?=some (.cells #[.int .i64 r.1,.int .i64 r.2,.int .i64 d,.int .i64 p,.slice va n vc] 131):=by rw[<- hw1];exact han _ _
 have F1:Fq w w1:=by rw[<- hw1];exact (Fr.refl _ _).alloc _
 have HB:=hid (fun (V:World) (F:FrX B (fun b=>b=bd\/b=bx) w1 V)=>cells5 (cW0 F b3 dC (fun e=>oM)));have HB1:=hid (fun (V:World) (F:Fq w1 V)=>aI (cells5 (F.heap b3 id)) (cells5 (F.heap (F1.heap h.idx id) id)));have HDp:=hid (fun V (F:Fq w1 V)=>eX0 (F.heap (F1.heap h.dir id) id:aj0 V bd B.s x));have hE1:=oN hE F1;have hEX:∀ g',(Value.slice va es.length vc).ownBlock=some g'->¬ (g'=bd\/g'=bx):=fun g' hg' e=>by
  obtain⟨_,⟨h0,_⟩|⟨g2,cap,cur,hv,_,hg2,_⟩⟩:=hE
  ·rw[h0] at hg';cases hg'
  ·rw[hv] at hg';have e2:g2=g':=Option.some.inj hg';subst e2;rcases e with e|e
   ·have:=h.dir;unfold aj0 at this;rw[<- e,hg2] at this;cases this
   ·have:=h.idx;unfold cn0 at this;rw[<- e,hg2] at this;cases this
 have HE:=hi2 (fun V (F:FrX B (fun b=>b=bd\/b=bx) w1 V)=>(show bm0 V 0 (.slice va es.length vc) es from mX0 hE1 dC F hEX)) (aI hk hn);obtain⟨gx,hgx⟩:=eX x.depth
 have HD:=hi2 hgx (aI h (aI F1 (aI hj (aI hsl hL))));rw[hgx] at HDp hd hg;have HHg:=hid hg;have FG:Fq w1 w1.drew:=(Fr.refl _ _).drew;have HW:=hid hw1;obtain⟨⟨o0,o1,o2,o3,o4,oz,ol⟩,⟨i0,i1,i2,i3,i4,iz,il⟩⟩:=HB1.out _ (Fr.refl _ _);rw[hn];clear h hj hE hk hsl hw1 b3 F1 hE1 hEX hn hgx hL hg hsm;go_enter Tryz.func133,Tryz.ntmps133;go_upto_region 1 with fail
 rw[HW.out];refine wp_region_noPanic ?_;refine aq0 (fun V=>Fq w1 V) (.rd 0 (.rd 1 (.rd 2 (.rd 3 (.rd 4 (.rd 5 (.rd 6 (.op 7 (.rd 8 .done))))))))) kF kF kF (fun _ _ _ _ _ h=>h) FG ?_;iterate 7
  try simp only[Act.put,sI,sZ,sS]
  refine ay0 _ ?_ gF rF ?_ ?_;rotate_left
  ·intro V hV;obtain⟨⟨o0,o1,o2,o3,o4,oz,ol⟩,⟨i0,i1,i2,i3,i4,iz,il⟩⟩:=HB1.out V hV;go_simp;try with_reducible rfl
 try simp only[Act.put,sI,sZ,sS]
 refine az0 _ gF rF (fun K hK=>?_);go_simp;refine (HDp.out _ FG).mono ?_;rintro _ _ ⟨rfl,rfl⟩;try go_simp
 refine hK _ _ FG ?_;clear hK K;try simp only[Act.put,sI,sZ,sS]
 refine ay0 _ ?_ gF rF ?_ ?_;rotate_left
 ·intro V hV;go_simp;try with_reducible rfl
 try simp only[Act.put,sI,sZ,sS]
 refine ar0 ?_;refine NoPanic.normal ?_;clear o0 o1 o2 o3 o4 oz ol i0 i1 i2 i3 i4 iz il;by_cases hdg:d=gx
 ·subst hdg;have hbq:((d:Int) == (d:Int))=true:=by simp
  obtain⟨-,⟨i0,i1,i2,i3,i4,iz,il⟩⟩:=HB1.out _ FG;have HDb:=hid (show Calls Tryz.prog 49 #[cR0 bd] w1.drew _ from (HD.out.2.1.fr0 (HD.out.2.2.1.trans FG nI)).double (by rw[HD.out.1];omega) oM);go_wp2_with fail
  refine HDb.out.mono ?_;rintro e V ⟨err,rfl,F2,hr⟩;have H2:=hi2 F2 hr;clear F2 hr i0 i1 i2 i3 i4 iz il;rcases H2.out.2 with⟨rfl,y2,x2,t2,hI2,hx2,hL2⟩|⟨rfl,ha,hDn⟩
  ·have HV:=hid (show FrX B (fun b=>b=bd\/b=bx) w1 V/\aD0 V B bx bd y2 P a (N+100) x2 t2 sl' L sp/\x2.depth=g/\Like y y2/\y2.gen=y.gen/\y2.dead=y.dead from by
    have hs:g=d+1/\sl'=gv0 slots:=by
     rcases HHg.out with h|h
     ·exact h.2
     ·exact absurd rfl h.1
    refine⟨FrX.trans (FrX.none FG) (bC0 H2.out.1 (fun b hb=>.inl hb)),by rw[hs.2];exact hI2,?_,hL2⟩;rw[hx2,hs.1,HD.out.1])
   clear hI2 hx2 hL2 HDb hbq FG;obtain⟨c0,c1,c2,c3,c4,cz,cl⟩:=cells5 HV.out.2.1.idx;have hspw:=HSW.out;go_upto_region 6 with fail
   clear hspw;obtain⟨V5,hV5⟩:=eX (V.setCell ⟨bx,4,none⟩ (.int .i64 (sp+1)))
   have hI5:=HV.out.2.1.splits (sp+1);have F5:FrX B (fun b=>b=bd\/b=bx) w1 V5:=by rw[<- hV5];exact FrX.trans HV.out.1 (Fr.setCell (FrX.refl _ _ _) (fun _=>.inr (.inr rfl)) _)
   rw[hV5] at hI5;rw[hV5];obtain⟨o0,o1,o2,o3,o4,oz,ol⟩:=HB.out V5 F5;have HSp:=hid (kL0 (HE.out.1 V5 F5) (by have:=HE.out.2.1.1;omega) (fun z hz=>(HE.out.2.1.2.2 z hz).1.1) d p oM hp20);have H5:=hi2 F5 hI5;rw[HE.out.2.2] at HSp;clear c0 c1 c2 c3 c4 cz cl hV5 hI5 F5;go_wp2_with fail
   refine HSp.out.mono ?_;rintro e V6 ⟨a0,k0,a1,k1,rfl,ho0,ho1,F6⟩;obtain⟨e0,he0⟩:∃ e0,es.filter (fun x=>!be0 d x)=e0:=⟨_,rfl⟩
   obtain⟨e1,he1⟩:=eX (es.filter (be0 d))
   have hbk:=eY0 HE.out.2.1 (by omega:d<20);rw[he0,he1] at hbk;rw[he0] at ho0;rw[he1] at ho1;rw[he0,he1];obtain⟨dd,hdd⟩:=eX (d+1)
   obtain⟨p1,hp1⟩:=eX (2*p+1)
   obtain⟨p0,hp0⟩:=eX (2*p)
   have hpp:p0<2^dd/\p1<2^dd:=by rw[<- hdd,lK9];omega
   rw[hp1,hp0,hdd] at hbk;rw[hp1,hp0,hdd];obtain⟨n0,hn0⟩:=eX e0.length
   obtain⟨n1,hn1⟩:=eX e1.length
   have HLt:=hi2 hdd (aI hp0 (aI hp1 (aI he0 he1)));have HPP:=hid hpp;have HBk:=hid hbk;have hn13:n1<=3:=by rw[<- hn1];exact hbk.2.1
   have hdd3:dd<=3:=oM
   have hpq:p1<1048576:=nLL hpp.2 (nT (lc9 dC (by omega:dd<=20)) dC);rw[hn0,hn1];have F56:=H5.out.2.fr0 F6;have HO:=hi2 ho0 (aI ho1 (aI hn0 (aI hn1 F6.size)));have FX6:=FrX.trans H5.out.1 (FrX.none F6);clear hdd hp0 hp1 he0 he1 hn0 hn1 ho0 ho1 hbk hpp;go_upto_region 7 with fail
   obtain⟨V7,hV7⟩:=eX (V6.alloc (.cells #[.int .i64 dd,.int .i64 p0,.slice a0 n0 k0,.int .i64 dd,.int .i64 p1,.slice a1 n1 k1] 301))
   rw[hV7];obtain⟨b6,hb6⟩:=eX V6.heap.size
   rw[hb6];have g6:V7.heap[b6]?=some (.cells #[.int .i64 dd,.int .i64 p0,.slice a0 n0 k0,.int .i64 dd,.int .i64 p1,.slice a1 n1 k1] 301):=by rw[<- hV7,<- hb6];exact han V6 _
   have F7:Fq V6 V7:=by rw[<- hV7];exact (Fr.refl _ _).alloc _
   have hI7:=F56.fr0 F7;have hb6d:b6≠bd/\b6≠bx:=by
    have h1:=H5.out.2.gR0;have h2:=F6.size;omega
   have HB7:=hid (fun V (F:Fq V7 V)=>aI (aU0 (F.heap g6 id)) (cells5 (F.heap hI7.idx id)));have HPk:=hid (fun V (F:Fq V7 V)=>kp0 (oN (oN (own_base HO.out.2.1) F7) F) (by rw[HO.out.2.2.2.1];omega) (fun z hz=>(HBk.out.2.2.2 z hz).1) dd p1 3 oM hpq HBk.out.2.1 dC (fun W FW=>gh0 (oN (oN (oN (own_base HO.out.2.1) F7) F) FW) HBk.out.2 oM HPP.out.2));rw[HO.out.2.2.2.1] at HPk;have H7:=hi2 hI7 (aI (FrX.trans FX6 (FrX.none F7)) (aI g6 F7));obtain⟨⟨q0,q1,q2,q3,q4,q5,qz,ql⟩,⟨i0,i1,i2,i3,i4,iz,il⟩⟩:=HB7.out _ (Fr.refl _ _);have FG7:Fq V7 V7.drew:=(Fr.refl _ _).drew;clear hV7 g6 F7 hI7 FX6 F56 F6 hb6 o0 o1 o2 o3 o4 oz ol;refine wp_region_noPanic ?_;refine aq0 (fun V=>Fq V7 V) (.rd 0 (.rd 1 (.rd 2 (.rd 3 (.rd 4 (.rd 5 (.op 6 (.rd 7 (.rd 8 (.rd 9 (.rd 10 (.rd 11 .done)))))))))))) kF kF kF (fun _ _ _ _ _ h=>h) FG7 ?_;iterate 6
    try simp only[Act.put,sI,sZ,sS]
    refine ay0 _ ?_ gF rF ?_ ?_;rotate_left
    ·intro V hV;obtain⟨⟨q0,q1,q2,q3,q4,q5,qz,ql⟩,⟨i0,i1,i2,i3,i4,iz,il⟩⟩:=HB7.out V hV;go_simp;try with_reducible rfl
   try simp only[Act.put,sI,sZ,sS]
   refine az0 _ gF rF (fun K hK=>?_);go_simp;refine (HPk.out _ FG7).mono ?_;rintro _ V8 ⟨la,lc,rfl,hb8,F8⟩;have FG8:=FG7.trans F8 nI;have H8:=hi2 hb8 FG8;try go_simp
   refine hK _ _ FG8 ?_;clear hK K hb8 F8 FG8;iterate 5
    try simp only[Act.put,sI,sZ,sS]
    refine ay0 _ ?_ gF rF ?_ ?_;rotate_left
    ·intro V hV;go_simp;try with_reducible rfl
   try simp only[Act.put,sI,sZ,sS]
   refine ar0 ?_;refine NoPanic.normal ?_;clear FG7 q0 q1 q2 q3 q4 q5 qz ql i0 i1 i2 i3 i4 iz il;rw[HO.out.2.2.2.1] at H8 ⊢;obtain⟨⟨q0,q1,q2,q3,q4,q5,qz,ql⟩,⟨i0,i1,i2,i3,i4,iz,il⟩⟩:=HB7.out _ H8.out.2;have hI8:=H7.out.1.fr0 H8.out.2;have HNw:=hid (pX0 hI8.st (H8.out.1.inp B) (cL0 dd p1 e1) (by rw[hI8.room];omega) hI8.free oM);have HI8:=hid hI8;clear hI8;go_wp2_with fail
   refine HNw.out.mono ?_;rintro e V9 ⟨pp,ss,err,rfl,F9,hr⟩;have g69:=FrB.heap F9 (H8.out.2.heap H7.out.2.2.1 id) dC;have FX9:=FrX.trans (FrX.trans H7.out.2.1 (FrX.none H8.out.2)) (FrX.of F9);have H9:=hi2 g69 (aI FX9 F9);clear q0 q1 q2 q3 q4 q5 qz ql i0 i1 i2 i3 i4 iz il g69 FX9 F9;rcases hr with⟨rfl,m1,rfl,rfl,ht,hS⟩|⟨rfl,ha,hDn⟩
   ·have hI9:=HI8.out.kS0 ht H9.out.2.2 hS HD.out.2.2.2.2.2;go_upto_region 11 with fail
    obtain⟨V10,hV10⟩:=eX (V9.alloc (.cells #[.int .i64 m1,.int .i64 y2.gen] 35))
    rw[hV10];have F10:Fq V9 V10:=(by rw[<- hV10];exact (Fr.refl _ _).alloc _);have g9:V10.heap[V9.heap.size]?=some (.cells #[.int .i64 m1,.int .i64 y2.gen] 35):=(by rw[<- hV10];exact han V9 _);have hI10:=hI9.fr0 F10;have hr1:=(hI10.bk _ (lu9 L (lQ9.2 rfl))).1;have HPo:=hid (fo0 hI10 (r:=((m1:Int),(y2.gen:Int))) a1 n1 k1 (by rw[HV.out.2.2.1];have:=HHg.out;have:=HLt.out.1;omega) HPP.out.2 hr1 oM);obtain⟨q0,q1,q2,q3,q4,q5,qz,ql⟩:=aU0 (F10.heap H9.out.1 id);obtain⟨y0,y1,yz,yl⟩:=cells2 g9;have H10:=hi2 F10 (F10.heap H9.out.1 id);clear hI9 hI10 hr1 hV10 g9 F10 ht hS;go_wp2_with fail
    refine HPo.out.mono ?_;rintro e V11 ⟨err,rfl,F11,hr⟩;have FX11:=FrX.trans (FrX.trans H9.out.2.1 (FrX.none H10.out.1)) (bC0 F11 (fun b hb=>.inl hb));have g611:=cW0 F11 H10.out.2 dC hb6d.1;have H11:=hi2 FX11 (aI g611 F11);clear q0 q1 q2 q3 q4 q5 qz ql y0 y1 yz yl FX11 g611 F11;rcases hr with⟨rfl,y11,x11,t11,hI11,hx11,hL11⟩|⟨rfl,ha,hDn⟩
    ·obtain⟨q0,q1,q2,q3,q4,q5,qz,ql⟩:=aU0 H11.out.2.1;obtain⟨o0,o1,o2,o3,o4,oz,ol⟩:=HB.out V11 H11.out.1;have hx11g:x11.depth=g:=hx11.trans HV.out.2.2.1;have hoX:∀ g',(Value.slice a0 e0.length k0).ownBlock=some g'->¬ g'=bd:=fun g' hg' e=>by
      have h1:=(aW0 HO.out.1 hg').1;have h2:=H5.out.2.gR0;omega
     have ho11:bm0 V11 0 (.slice a0 e0.length k0) e0:=mX0 (oN (fX0 (oN (oN (own_base HO.out.1) (H7.out.2.2.2.trans H8.out.2 nI)) (Fr.refl _ _)) dC H9.out.2.2) H10.out.1) dC H11.out.2.2 hoX;have hdg1:dd<=g:=(by have:=HHg.out;have:=HLt.out.1;omega);have HKe:=hid (dF0 hI11 (j:=j) (r:=r) (ld0:=ld0) (d:=dd) (p:=p0) (by rw[lh9 (gI.1 HD.out.2.2.2.1).1];exact HD.out.2.2.2.1) ho11 HBk.out.1 (by rw[hx11g];exact hdg1) HPP.out.1 (by
      rw[hx11g,HV.out.2.2.1];intro i hi;obtain⟨k1,k2⟩:=jv0 (d:=d) (p:=p) (g:=g) (by have:=HLt.out.1;omega) (by rw[HLt.out.2.1,HLt.out.1];exact hi);rw[HLt.out.2.2.1,HLt.out.1] at k2;rw[bf0,if_neg k2];exact HD.out.2.2.2.2.1 i k1) oM)
     rw[hx11g,HO.out.2.2.1] at HKe;have HI11:=hi2 hx11g hL11;clear hI11 hx11 hx11g hL11 hoX ho11;go_wp2_with fail
     refine HKe.out.mono ?_;rintro e V12 ⟨err,rfl,F12,hr⟩;have H12:=hi2 F12 hr;clear F12 hr q0 q1 q2 q3 q4 q5 qz ql o0 o1 o2 o3 o4 oz ol;go_wp2_with fail
     go_ret;refine⟨err,rfl,FrX.trans (FrX.none HD.out.2.2.1) (FrX.trans H11.out.1 (bC0 H12.out.1 (fun b hb=>.inl hb))),?_⟩;rcases H12.out.2 with⟨rfl,m0,y12,x12,t12,hI12,hx12,hL12⟩|⟨rfl,ha,hDn⟩
     ·refine .inl ⟨rfl,m0,m1,y12,x12,t12,?_,hx12,(HV.out.2.2.2.1.trans ((show Like y2 (y2.new m1 (aA0 dd p1 e1)) from⟨rfl,rfl,rfl,rfl,rfl,rfl,rfl⟩).trans HI11.out.2.1)).trans hL12.1,?_,?_⟩
      ·obtain⟨l1,l2,l3,l4,l5⟩:=HLt.out;have hg11:y11.gen=y.gen:=HI11.out.2.2.1.trans HV.out.2.2.2.2.1;rw[hg11,HV.out.2.2.1,HV.out.2.2.2.2.1] at hI12;rw[l1,l3,l2,l4,l5];exact hI12.mono oM hN
      ·exact hL12.2.1.trans (HI11.out.2.2.1.trans HV.out.2.2.2.2.1)
      ·exact hL12.2.2.trans (HI11.out.2.2.2.trans HV.out.2.2.2.2.2)
     ·exact .inr ⟨rfl,ha,aX0 (hDn.mono oM) (HV.out.2.2.2.1.trans ((show Like y2 (y2.new m1 (aA0 dd p1 e1)) from⟨rfl,rfl,rfl,rfl,rfl,rfl,rfl⟩).trans HI11.out.2.1))⟩
    ·have HX:=hi2 ha hDn;clear ha hDn;go_wp2_with fail
     go_ret;exact⟨4,rfl,FrX.trans (FrX.none HD.out.2.2.1) (H11.out.1),.inr ⟨rfl,HX.out.1,aX0 (HX.out.2.mono oM) (HV.out.2.2.2.1.trans (show Like y2 (y2.new m1 (aA0 dd p1 e1)) from⟨rfl,rfl,rfl,rfl,rfl,rfl,rfl⟩))⟩⟩
   ·have HX:=hi2 ha hDn;clear ha hDn;go_wp2_with fail
    go_ret;exact⟨4,rfl,FrX.trans (FrX.none HD.out.2.2.1) (FrX.trans H9.out.2.1 (FrX.none ((Fr.refl _ _).alloc _))),.inr ⟨rfl,HX.out.1,aX0 ((HX.out.2.mono oM).fr0 ((Fr.refl _ _).alloc _)) HV.out.2.2.2.1⟩⟩
  ·have HX:=hi2 ha hDn;clear ha hDn;go_wp2_with fail
   go_ret;exact⟨4,rfl,FrX.trans (FrX.none (HD.out.2.2.1.trans FG nI)) (bC0 H2.out.1 (fun b hb=>.inl hb)),.inr ⟨rfl,HX.out.1,HX.out.2.mono oM⟩⟩
 ·have hbq:((d:Int) == (gx:Int))=false:=by simp;omega
  have HDG:=hid hdg;clear hdg;obtain⟨V,hVd⟩:=eX w1.drew
  obtain⟨y2,hy2⟩:=eX y
  obtain⟨x2,hx2⟩:=eX x
  have HV:=hid (show FrX B (fun b=>b=bd\/b=bx) w1 V/\aD0 V B bx bd y2 P a (N+100) x2 au0 sl' L sp/\x2.depth=g/\Like y y2/\y2.gen=y.gen/\y2.dead=y.dead from by
   have hs:g=gx/\sl'=slots:=by
    rcases HHg.out with h|h
    ·exact absurd h.1 HDG.out
    ·exact h.2
   rw[<- hVd,<- hy2,<- hx2];exact⟨FrX.none FG,by rw[hs.2];exact (HD.out.2.1.fr0 (HD.out.2.2.1.trans FG nI)).mono oM oM,by rw[hs.1,HD.out.1],Like.refl y,rfl,rfl⟩)
  rw[hVd];clear hVd hy2 hx2 FG;obtain⟨c0,c1,c2,c3,c4,cz,cl⟩:=cells5 HV.out.2.1.idx;have hspw:=HSW.out;go_upto_region 6 with fail
  clear hspw;obtain⟨V5,hV5⟩:=eX (V.setCell ⟨bx,4,none⟩ (.int .i64 (sp+1)))
  have hI5:=HV.out.2.1.splits (sp+1);have F5:FrX B (fun b=>b=bd\/b=bx) w1 V5:=by rw[<- hV5];exact FrX.trans HV.out.1 (Fr.setCell (FrX.refl _ _ _) (fun _=>.inr (.inr rfl)) _)
  rw[hV5] at hI5;rw[hV5];obtain⟨o0,o1,o2,o3,o4,oz,ol⟩:=HB.out V5 F5;have HSp:=hid (kL0 (HE.out.1 V5 F5) (by have:=HE.out.2.1.1;omega) (fun z hz=>(HE.out.2.1.2.2 z hz).1.1) d p oM hp20);have H5:=hi2 F5 hI5;rw[HE.out.2.2] at HSp;clear c0 c1 c2 c3 c4 cz cl hV5 hI5 F5;go_wp2_with fail
  refine HSp.out.mono ?_;rintro e V6 ⟨a0,k0,a1,k1,rfl,ho0,ho1,F6⟩;obtain⟨e0,he0⟩:∃ e0,es.filter (fun x=>!be0 d x)=e0:=⟨_,rfl⟩
  obtain⟨e1,he1⟩:=eX (es.filter (be0 d))
  have hbk:=eY0 HE.out.2.1 (by omega:d<20);rw[he0,he1] at hbk;rw[he0] at ho0;rw[he1] at ho1;rw[he0,he1];obtain⟨dd,hdd⟩:=eX (d+1)
  obtain⟨p1,hp1⟩:=eX (2*p+1)
  obtain⟨p0,hp0⟩:=eX (2*p)
  have hpp:p0<2^dd/\p1<2^dd:=by rw[<- hdd,lK9];omega
  rw[hp1,hp0,hdd] at hbk;rw[hp1,hp0,hdd];obtain⟨n0,hn0⟩:=eX e0.length
  obtain⟨n1,hn1⟩:=eX e1.length
  have HLt:=hi2 hdd (aI hp0 (aI hp1 (aI he0 he1)));have HPP:=hid hpp;have HBk:=hid hbk;have hn13:n1<=3:=by rw[<- hn1];exact hbk.2.1
  have hdd3:dd<=3:=oM
  have hpq:p1<1048576:=nLL hpp.2 (nT (lc9 dC (by omega:dd<=20)) dC);rw[hn0,hn1];have F56:=H5.out.2.fr0 F6;have HO:=hi2 ho0 (aI ho1 (aI hn0 (aI hn1 F6.size)));have FX6:=FrX.trans H5.out.1 (FrX.none F6);clear hdd hp0 hp1 he0 he1 hn0 hn1 ho0 ho1 hbk hpp;go_upto_region 7 with fail
  obtain⟨V7,hV7⟩:=eX (V6.alloc (.cells #[.int .i64 dd,.int .i64 p0,.slice a0 n0 k0,.int .i64 dd,.int .i64 p1,.slice a1 n1 k1] 301))
  rw[hV7];obtain⟨b6,hb6⟩:=eX V6.heap.size
  rw[hb6];have g6:V7.heap[b6]?=some (.cells #[.int .i64 dd,.int .i64 p0,.slice a0 n0 k0,.int .i64 dd,.int .i64 p1,.slice a1 n1 k1] 301):=by rw[<- hV7,<- hb6];exact han V6 _
  have F7:Fq V6 V7:=by rw[<- hV7];exact (Fr.refl _ _).alloc _
  have hI7:=F56.fr0 F7;have hb6d:b6≠bd/\b6≠bx:=by
   have h1:=H5.out.2.gR0;have h2:=F6.size;omega
  have HB7:=hid (fun V (F:Fq V7 V)=>aI (aU0 (F.heap g6 id)) (cells5 (F.heap hI7.idx id)));have HPk:=hid (fun V (F:Fq V7 V)=>kp0 (oN (oN (own_base HO.out.2.1) F7) F) (by rw[HO.out.2.2.2.1];omega) (fun z hz=>(HBk.out.2.2.2 z hz).1) dd p1 3 oM hpq HBk.out.2.1 dC (fun W FW=>gh0 (oN (oN (oN (own_base HO.out.2.1) F7) F) FW) HBk.out.2 oM HPP.out.2));rw[HO.out.2.2.2.1] at HPk;have H7:=hi2 hI7 (aI (FrX.trans FX6 (FrX.none F7)) (aI g6 F7));obtain⟨⟨q0,q1,q2,q3,q4,q5,qz,ql⟩,⟨i0,i1,i2,i3,i4,iz,il⟩⟩:=HB7.out _ (Fr.refl _ _);have FG7:Fq V7 V7.drew:=(Fr.refl _ _).drew;clear hV7 g6 F7 hI7 FX6 F56 F6 hb6 o0 o1 o2 o3 o4 oz ol;refine wp_region_noPanic ?_;refine aq0 (fun V=>Fq V7 V) (.rd 0 (.rd 1 (.rd 2 (.rd 3 (.rd 4 (.rd 5 (.op 6 (.rd 7 (.rd 8 (.rd 9 (.rd 10 (.rd 11 .done)))))))))))) kF kF kF (fun _ _ _ _ _ h=>h) FG7 ?_;iterate 6
   try simp only[Act.put,sI,sZ,sS]
   refine ay0 _ ?_ gF rF ?_ ?_;rotate_left
   ·intro V hV;obtain⟨⟨q0,q1,q2,q3,q4,q5,qz,ql⟩,⟨i0,i1,i2,i3,i4,iz,il⟩⟩:=HB7.out V hV;go_simp;try with_reducible rfl
  try simp only[Act.put,sI,sZ,sS]
  refine az0 _ gF rF (fun K hK=>?_);go_simp;refine (HPk.out _ FG7).mono ?_;rintro _ V8 ⟨la,lc,rfl,hb8,F8⟩;have FG8:=FG7.trans F8 nI;have H8:=hi2 hb8 FG8;try go_simp
  refine hK _ _ FG8 ?_;clear hK K hb8 F8 FG8;iterate 5
   try simp only[Act.put,sI,sZ,sS]
   refine ay0 _ ?_ gF rF ?_ ?_;rotate_left
   ·intro V hV;go_simp;try with_reducible rfl
  try simp only[Act.put,sI,sZ,sS]
  refine ar0 ?_;refine NoPanic.normal ?_;clear FG7 q0 q1 q2 q3 q4 q5 qz ql i0 i1 i2 i3 i4 iz il;rw[HO.out.2.2.2.1] at H8 ⊢;obtain⟨⟨q0,q1,q2,q3,q4,q5,qz,ql⟩,⟨i0,i1,i2,i3,i4,iz,il⟩⟩:=HB7.out _ H8.out.2;have hI8:=H7.out.1.fr0 H8.out.2;have HNw:=hid (pX0 hI8.st (H8.out.1.inp B) (cL0 dd p1 e1) (by rw[hI8.room];omega) hI8.free oM);have HI8:=hid hI8;clear hI8;go_wp2_with fail
  refine HNw.out.mono ?_;rintro e V9 ⟨pp,ss,err,rfl,F9,hr⟩;have g69:=FrB.heap F9 (H8.out.2.heap H7.out.2.2.1 id) dC;have FX9:=FrX.trans (FrX.trans H7.out.2.1 (FrX.none H8.out.2)) (FrX.of F9);have H9:=hi2 g69 (aI FX9 F9);clear q0 q1 q2 q3 q4 q5 qz ql i0 i1 i2 i3 i4 iz il g69 FX9 F9;rcases hr with⟨rfl,m1,rfl,rfl,ht,hS⟩|⟨rfl,ha,hDn⟩
  ·have hI9:=HI8.out.kS0 ht H9.out.2.2 hS HD.out.2.2.2.2.2;go_upto_region 11 with fail
   obtain⟨V10,hV10⟩:=eX (V9.alloc (.cells #[.int .i64 m1,.int .i64 y2.gen] 35))
   rw[hV10];have F10:Fq V9 V10:=by rw[<- hV10];exact (Fr.refl _ _).alloc _
   have g9:V10.heap[V9.heap.size]?=some (.cells #[.int .i64 m1,.int .i64 y2.gen] 35):=by rw[<- hV10];exact han V9 _
   have hI10:=hI9.fr0 F10;have hr1:=(hI10.bk _ (lu9 L (lQ9.2 rfl))).1;have HPo:=hid (fo0 hI10 (r:=((m1:Int),(y2.gen:Int))) a1 n1 k1 (by rw[HV.out.2.2.1];have:=HHg.out;have:=HLt.out.1;omega) HPP.out.2 hr1 oM);obtain⟨q0,q1,q2,q3,q4,q5,qz,ql⟩:=aU0 (F10.heap H9.out.1 id);obtain⟨y0,y1,yz,yl⟩:=cells2 g9;have H10:=hi2 F10 (F10.heap H9.out.1 id);clear hI9 hI10 hr1 hV10 g9 F10 ht hS;go_wp2_with fail
   refine HPo.out.mono ?_;rintro e V11 ⟨err,rfl,F11,hr⟩;have FX11:=FrX.trans (FrX.trans H9.out.2.1 (FrX.none H10.out.1)) (bC0 F11 (fun b hb=>.inl hb));have g611:=cW0 F11 H10.out.2 dC hb6d.1;have H11:=hi2 FX11 (aI g611 F11);clear q0 q1 q2 q3 q4 q5 qz ql y0 y1 yz yl FX11 g611 F11;rcases hr with⟨rfl,y11,x11,t11,hI11,hx11,hL11⟩|⟨rfl,ha,hDn⟩
   ·obtain⟨q0,q1,q2,q3,q4,q5,qz,ql⟩:=aU0 H11.out.2.1;obtain⟨o0,o1,o2,o3,o4,oz,ol⟩:=HB.out V11 H11.out.1;have hx11g:x11.depth=g:=hx11.trans HV.out.2.2.1;have hoX:∀ g',(Value.slice a0 e0.length k0).ownBlock=some g'->¬ g'=bd:=fun g' hg' e=>by
     have h1:=(aW0 HO.out.1 hg').1;have h2:=H5.out.2.gR0;omega
    have ho11:bm0 V11 0 (.slice a0 e0.length k0) e0:=mX0 (oN (fX0 (oN (oN (own_base HO.out.1) (H7.out.2.2.2.trans H8.out.2 nI)) (Fr.refl _ _)) dC H9.out.2.2) H10.out.1) dC H11.out.2.2 hoX;have hdg1:dd<=g:=(by have:=HHg.out;have:=HLt.out.1;omega);have HKe:=hid (dF0 hI11 (j:=j) (r:=r) (ld0:=ld0) (d:=dd) (p:=p0) (by rw[lh9 (gI.1 HD.out.2.2.2.1).1];exact HD.out.2.2.2.1) ho11 HBk.out.1 (by rw[hx11g];exact hdg1) HPP.out.1 (by
     rw[hx11g,HV.out.2.2.1];intro i hi;obtain⟨k1,k2⟩:=jv0 (d:=d) (p:=p) (g:=g) (by have:=HLt.out.1;omega) (by rw[HLt.out.2.1,HLt.out.1];exact hi);rw[HLt.out.2.2.1,HLt.out.1] at k2;rw[bf0,if_neg k2];exact HD.out.2.2.2.2.1 i k1) oM)
    rw[hx11g,HO.out.2.2.1] at HKe;have HI11:=hi2 hx11g hL11;clear hI11 hx11 hx11g hL11 hoX ho11;go_wp2_with fail
    refine HKe.out.mono ?_;rintro e V12 ⟨err,rfl,F12,hr⟩;have H12:=hi2 F12 hr;clear F12 hr q0 q1 q2 q3 q4 q5 qz ql o0 o1 o2 o3 o4 oz ol;go_wp2_with fail
    go_ret;refine⟨err,rfl,FrX.trans (FrX.none HD.out.2.2.1) (FrX.trans H11.out.1 (bC0 H12.out.1 (fun b hb=>.inl hb))),?_⟩;rcases H12.out.2 with⟨rfl,m0,y12,x12,t12,hI12,hx12,hL12⟩|⟨rfl,ha,hDn⟩
    ·refine .inl ⟨rfl,m0,m1,y12,x12,t12,?_,hx12,(HV.out.2.2.2.1.trans ((show Like y2 (y2.new m1 (aA0 dd p1 e1)) from⟨rfl,rfl,rfl,rfl,rfl,rfl,rfl⟩).trans HI11.out.2.1)).trans hL12.1,?_,?_⟩
     ·obtain⟨l1,l2,l3,l4,l5⟩:=HLt.out;have hg11:y11.gen=y.gen:=HI11.out.2.2.1.trans HV.out.2.2.2.2.1;rw[hg11,HV.out.2.2.1,HV.out.2.2.2.2.1] at hI12;rw[l1,l3,l2,l4,l5];exact hI12.mono oM hN
     ·exact hL12.2.1.trans (HI11.out.2.2.1.trans HV.out.2.2.2.2.1)
     ·exact hL12.2.2.trans (HI11.out.2.2.2.trans HV.out.2.2.2.2.2)
    ·exact .inr ⟨rfl,ha,aX0 (hDn.mono oM) (HV.out.2.2.2.1.trans ((show Like y2 (y2.new m1 (aA0 dd p1 e1)) from⟨rfl,rfl,rfl,rfl,rfl,rfl,rfl⟩).trans HI11.out.2.1))⟩
   ·have HX:=hi2 ha hDn;clear ha hDn;go_wp2_with fail
    go_ret;exact⟨4,rfl,FrX.trans (FrX.none HD.out.2.2.1) (H11.out.1),.inr ⟨rfl,HX.out.1,aX0 (HX.out.2.mono oM) (HV.out.2.2.2.1.trans (show Like y2 (y2.new m1 (aA0 dd p1 e1)) from⟨rfl,rfl,rfl,rfl,rfl,rfl,rfl⟩))⟩⟩
  ·have HX:=hi2 ha hDn;clear ha hDn;go_wp2_with fail
   go_ret;exact⟨4,rfl,FrX.trans (FrX.none HD.out.2.2.1) (FrX.trans H9.out.2.1 (FrX.none ((Fr.refl _ _).alloc _))),.inr ⟨rfl,HX.out.1,aX0 ((HX.out.2.mono oM).fr0 ((Fr.refl _ _).alloc _)) HV.out.2.2.2.1⟩⟩
end
section
open Go.RowKit Go.Sg CP SF
structure kW0 (t:Tr)(g:Nat)(L:List Bp)(k d p:Nat)(r:Rf)(es:List Bt):Prop where
 at_:t.at_ g k 0 0=(d,p,r,es)
 kl:k<2^g
 dg:d<=g
 pl:p<2^d
 ok:dn0 d p es
 slot:(t.slots g)[k]?=some r
 mem:(r,aA0 d p es) ∈ L
 lo:t.lo g k=p*2^(g-d)
 wd:t.wd g k=g-d
variable {t:Tr}{N bd bx d g j k p:Nat}{L:List Bp}{V:World}{a:Bool}{sp:Int}
theorem nf0 (hk:k<2^g)(hh:t.high<=g)(hok:okT t 0 0)(hP:L.Perm (lds t 0 0)):∃ d p r es,kW0 t g L k d p r es:=by
 obtain⟨⟨d,p,r,es⟩,hz⟩:∃ z,t.at_ g k 0 0=z:=⟨_,rfl⟩
 have h1:=Tr.cC0 t g k 0 0;have h2:=Tr.gZ0 t g k 0 0 hh;have h3:=Tr.nE0 t g k 0 0 hh;have h4:=Tr.kQ0 t g k 0 0 hh hk;have h5:=pT0 t g k 0 0 hok;have h6:=Tr.gb0 t g k 0 0 hh hk;obtain⟨A,C,hA⟩:=lm0 t g k 0 0;have h7:=hA Tr.leaf;rw[dt0] at h7;rw[hz] at h1 h2 h3 h4 h5 h6 h7;simp only at h1 h2 h3 h4 h5 h6 h7;have hwd:t.wd g k=g-d:=oM
 refine⟨d,p,r,es,hz,hk,oM,?_,h5,h6,?_,?_,hwd⟩
 ·rw[h4,mr9,lp9,lp9];refine Nat.div_lt_of_lt_mul ?_;rw[<- mZ9,show g-d+d=g by omega];exact hk
 ·rw[hP.mem_iff,h7];simp[lds]
 ·rw[<- hwd,<- h3];simp
variable {B:Blk}{y':Cs}{P:aC0}{x':aL0}{tops':List Rf}{r:Rf}{es:List Bt}
theorem eP0 {r':Rf}{es':List Bt}(hb:kW0 t g L k d p r es)(hh:t.high=g)(hok:okT t 0 0)(hP:L.Perm (lds t 0 0))(hj:L[j]?=some (r,aA0 d p es))(hk':dn0 d p es')(hx:x'.depth=g)
  (hI:aD0 V B bx bd y' P a N x' tops' (bQ0 (t.slots g) (slN (p*2^(g-d)) (2^(g-d))) r') (L.set j (r',aA0 d p es')) sp):fk0 V B bx bd y' P a N x' (t.put g k (fun _ _=>.leaf r' es')) sp:=by
 have hs:=je0 (t:=t) (g:=g) (k:=k) oM hb.kl r' (fun _ _=>.leaf r' es') (fun _ _=>⟨es',rfl⟩);rw[hb.lo,hb.wd] at hs;obtain⟨A,C,hA⟩:=lm0 t g k 0 0;have h7:=hA Tr.leaf;rw[dt0] at h7;have h8:=hA (fun _ _=>.leaf r' es');rw[hb.at_] at h7 h8;simp only[lds,mz9] at h7 h8;rw[hs] at hI;refine⟨⟨tops',_,by rw[hx];exact hI,?_⟩,by rw[eS0 _ (fun _ _=>rfl),hh,hx],lZ0 _ t g k 0 0 hok ?_⟩
 ·rw[h8];rw[h7] at hP;exact set_perm hP hj
 ·rw[hb.at_];exact hk'
theorem oQ0 {α:Type}{L M:List α}{j:Nat}{q:α}(h:j<L.length):(L++M).set j q=L.set j q++M:=List.set_append_left _ _ h
theorem ro0 {r0 r1:Rf}{e0 e1:List Bt}(hb:kW0 t g L k d p r es)(hd:d<g)(hh:max t.high (d+1)=g)(hok:okT t 0 0)(hP:L.Perm (lds t 0 0))(hj:L[j]?=some (r,aA0 d p es))(hk0:dn0 (d+1) (2*p) e0)(hk1:dn0 (d+1) (2*p+1) e1)(hx:x'.depth=g)
  (hI:aD0 V B bx bd y' P a N x' tops' (bQ0 (bQ0 (t.slots g) (slN ((2*p+1)*2^(g-(d+1))) (2^(g-(d+1)))) r1) (slN (2*p*2^(g-(d+1))) (2^(g-(d+1)))) r0) ((L++[(r1,aA0 (d+1) (2*p+1) e1)]).set j (r0,aA0 (d+1) (2*p) e0)) sp):fk0 V B bx bd y' P a N x' (t.put g k (fun _ _=>.node (.leaf r0 e0) (.leaf r1 e1))) sp:=by
 have hs:=pF0 (t:=t) (g:=g) (k:=k) oM hb.kl (by rw[hb.wd];omega) r0 r1 (fun _ _=>.node (.leaf r0 e0) (.leaf r1 e1)) (fun _ _=>⟨e0,e1,rfl⟩);rw[hb.lo,hb.wd] at hs;have e1':g-d-1=g-(d+1):=oM
 have e2:2^(g-d)=2*2^(g-(d+1)):=by rw[show g-d=g-(d+1)+1 by omega,lK9];omega
 have e3:p*2^(g-d)=2*p*2^(g-(d+1)):=by rw[e2,<- mR9,lJ9 p 2]
 rw[e1',e3,<- show (2*p+1)*2^(g-(d+1))=2*p*2^(g-(d+1))+2^(g-(d+1)) by rw[nj9,Nat.one_mul]] at hs;obtain⟨A,C,hA⟩:=lm0 t g k 0 0;have h7:=hA Tr.leaf;rw[dt0] at h7;have h8:=hA (fun _ _=>.node (.leaf r0 e0) (.leaf r1 e1));have h9:=eQ0 (fun _ _=>.node (.leaf r0 e0) (.leaf r1 e1)) (fun _ _=>rfl) t g k 0 0;rw[hb.at_] at h7 h8 h9;simp only[lds,mz9,lo9,le9] at h7 h8;simp only[Nat.sub_zero] at h9;have hjl:=(gI.1 hj).1;rw[hs] at hI;refine⟨⟨tops',_,by rw[hx];exact hI,?_⟩,by rw[h9,hh,hx],lZ0 _ t g k 0 0 hok ?_⟩
 ·rw[h8,oQ0 hjl];rw[h7] at hP;have hs:=set_perm (q':=(r0,aA0 (d+1) (2*p) e0)) hP hj;refine (List.Perm.append_right _ hs).trans ?_;rw[lm9];refine List.Perm.append_left A ?_;rw[lo9];exact (List.Perm.cons _ List.perm_append_comm)
 ·rw[hb.at_];exact⟨hk0,hk1⟩
theorem wl0 (hb:kW0 t g L k d p r es)(hh:t.high<=g)(hok:okT t 0 0)(hP:L.Perm (lds t 0 0)):kW0 t (g+1) L (2*k) d p r es:=by
 have hk:2*k<2^(g+1):=by have:=hb.kl;rw[lK9];omega
 obtain⟨d',p',r',es',h⟩:=nf0 hk (by omega:t.high<=g+1) hok hP;have h1:=h.at_;rw[qh0 t g k 0 0 hh,hb.at_] at h1;cases h1;exact h
theorem pG0 (t:Tr)(g:Nat)(hh:t.high<=g):gv0 (t.slots g)=t.slots (g+1):=(Tr.iW0 t g hh).symm
theorem gQ0 (hb:kW0 t g L k d p r es)(hh:t.high<=g):∀ i ∈ slN (p*2^(g-d)) (2^(g-d)),(t.slots g)[i]?=some r:=by
 intro i hi;rw[is0] at hi;obtain⟨h1,h2,h3⟩:=Tr.lo_le t g k hh hb.kl;simp only[hb.lo,hb.wd] at h1 h2 h3;have h4:=Tr.sP0 t g k i hh hb.kl (by rw[hb.lo];exact hi.1) (by rw[hb.lo,hb.wd];exact hi.2);rw[Tr.gb0 t g i 0 0 hh oM,h4,hb.at_]
