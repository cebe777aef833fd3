/- A pack of texts. Conditions: those that each names. -/
import Derived.Test.YtgdhaaokolfdoaaGreatDoorNBL
import Derived.Test.YtgdhaaokolfdoaaGreatDoorNBP
import Derived.Deep.CutBlock
set_option maxHeartbeats 16000000
set_option maxRecDepth 100000
set_option linter.all false
namespace Go.Proofs.YtgdhaaokolfdoaaGreatDoor
open Go.RowKit Go.Sg Go.Sg.Bits Go.Sg.r4 CP SF Tryz
variable {N b b10 b7 base k l m:Nat}{a:Bool}{c:Array Value}{V V' Vn W W1:w9}{ty:TypeId}{a0 a1 v0 v1 v8 v9:Value}
def nH.M3 {w w':w9}{B:P0}{y:Cs}{P:J2}(h:nH l w B y P a N){t:TypeId}(F:Fr (fun b=>b=k) w w')(hk:w.heap[k]?=some (.cells c t))(ht:t ∉ 5 :: aR)(h0:0<k):nH l w' B y P a N:=by
 obtain⟨⟨x,c,hS,hy,hi,h1,h2⟩,hT,hb⟩:=h;exact⟨⟨x,c,hS.M3 F hk ht,hy,{ hi with holds:=hi.holds.M3 F hk (fun e=>ht (by simp[e])) },h1,h2⟩,hT.fr F fun e=>oM,hb⟩
variable {P:D4}
def mo.setB {w0:w9}{bs bv bx G:Nat}{t:Tr}{sp rp rs:Int}(h:mo l w0 base bs bv bx P a N G t sp rp rs V)(F:Fr (fun b=>b=k) V V')(hk:V.heap[k]?=some (.cells c ty))(ht:ty ∉ 5 :: 227 :: 209 :: aR)(hb:base<=k)(h0:0<k):mo l w0 base bs bv bx P a N G t sp rp rs V':=by
 obtain⟨B,bd,y,x,t',⟨⟨E0,L,hM,hP⟩,h1,h2⟩,h3,h4,h5,h6,h7,h8,h9⟩:=h;exact⟨B,bd,y,x,t',⟨⟨E0,L,hM.U2 F hk ht h0,hP⟩,h1,h2⟩,h3,h4,h5.trans F fun b P4 e=>oM,h6,h7,h8.M3 F hk (fun e=>ht (by simp only[d9] at e ⊢;rcases e with e|e <;> simp[e])) h0,h9⟩
def PY {o:Obj}(F:Fq V W)(h:W.alloc o=Vn):∃ b,b=W.heap.size/\V.heap.size<=b/\Vn.heap[b]?=some o/\Fq V Vn/\Fq W Vn:=by
 subst h;exact⟨_,rfl,F.size,han _ _,F.alloc _,fR.alloc _⟩
def Ir {a2 a3 a4 v2 v3 v4:Value}(k:W.heap[b]?=some (.cells #[a0,a1,a2,a3,a4] ty))(h:((((W.setCell b v0).setCell (aA b 1) v1).setCell (aA b 2) v2).setCell (aA b 3) v3).setCell (aA b 4) v4=Vn) :
  Vn.heap[b]?=some (.cells #[v0,v1,v2,v3,v4] ty)/\Fr (fun x=>x=b) W Vn:=by
 subst h;exact⟨Ww k _ _ _ _ _,by with_reducible (repeat (first|exact fR|refine Fr.setCell ?_ (fun _=>by simp) _))⟩
def pJ0 (k:W.heap[b]?=some (.cells #[a0,a1] ty))(h:(W.setCell b v0).setCell (aA b 1) v1=Vn) :
  Vn.heap[b]?=some (.cells #[v0,v1] ty)/\Fr (fun x=>x=b) W Vn:=by
 subst h;exact⟨by rw[hsc _ _ _ _ (hsc _ _ _ _ k)];rfl,by with_reducible (repeat (first|exact fR|refine Fr.setCell ?_ (fun _=>by simp) _))⟩
def sm (W1:w9)(b7 b10 m:Nat)(P:D4)(v8 v9:Value)(V:w9):Prop:=
 ∃ (tw:Tr) (gw:Nat) (v2:Value) (s2 rp rs:Int),(v8 = iI tw.high/\v9 = iI gw/\gw<=m)/\V.heap[b7]?=some (.cells #[iI tw.high,iI 3,iI 3,v2,iI s2] 137)/\OwnB V 0 v2 (rows tw 0 0)/\V.heap[b10]?=some (.cells #[iI rp,iI rs] 35)/\MP P rp rs tw
def Mv (W1:w9)(bv b7 b10:Nat)(v8 v9:Value)(V:w9):Prop:=
 ∃ P:D4,yv W1 W1.heap.size bv P 65000 V/\sm W1 b7 b10 102 P v8 v9 V
def MJ (W1:w9)(bv bs bx br b7 b10 m:Nat)(v8 v9:Value)(V:w9):Prop:=
 ∃ (P:D4) (N G:Nat) (t:Tr) (sp:Int) (v:Value),Z7 W1 W1.heap.size bs bv bx P true N G t sp V/\(N<=20+600*m/\G<=m+2/\0<=sp/\sp<=3*m) /\
  (V.heap[br]?=some (.cells #[iI t.high,iI 3,iI 3,v,iI sp] 137)/\OwnB V 0 v (rows t 0 0))/\sm W1 b7 b10 (m+2) P v8 v9 V
def Rg (W1:w9)(bv bs bx:Nat)(P:D4)(N G:Nat)(sp:Int)(V0:w9)(v12 v13 v14:Value)(V:w9):Prop:=
 ∃ (b12 g':Nat) (va:Option Addr) (vn vc:Nat) (sp' err:Int),(v12 = pO b12/\v13 = iI err/\v14 = bO true)/\D1 W1.heap.size V0 V/\V0<=b12/\V.heap[b12]?=some (.cells #[iI g',iI 3,iI 3,sL va vn vc,iI sp'] 137) /\
  ((err=0/\(sp<=sp'/\sp'<=sp+3)/\∃ t',Z7 W1 W1.heap.size bs bv bx P true (N+480) G t' sp' V/\OwnB V 0 (sL va vn vc) (rows t' 0 0)/\t'.high=g')\/(err=4/\fp W1 W1.heap.size bv P (N+1300) V))
section
variable {W1 V V3 V4:w9}{base bv bs bx N G:Nat}{P:D4}{sp sp' err:Int}{g':Nat}{v':Value}
def xM0 (hr:(err=0/\(sp<=sp'/\sp'<=sp+3)/\∃ t',Z7 W1 base bs bv bx P true (N+480) G t' sp' V/\OwnB V 0 v' (rows t' 0 0)/\t'.high=g')\/(err=4/\true=true/\fp W1 base bv P (N+1300) V/\∃ b m k,v' = sL b m k)):∃ b m k,v' = sL b m k:=by
 rcases hr with⟨-,-,t',-,hO,-⟩|⟨-,-,-,h⟩
 .obtain⟨a1,c1,e⟩:=hO.slice;exact⟨_,_,_,e⟩
 .exact h
def xL0 (hr:(err=0/\(sp<=sp'/\sp'<=sp+3)/\∃ t',Z7 W1 base bs bv bx P true (N+480) G t' sp' V/\OwnB V 0 v' (rows t' 0 0)/\t'.high=g')\/(err=4/\true=true/\fp W1 base bv P (N+1300) V/\∃ b m k,v' = sL b m k))(F3:Fq V V3){k:Nat}{c:Array Value}(F4:Fr (fun b=>b=k) V3 V4)(hk:V3.heap[k]?=some (.cells c 137))(hb:base<=k/\W1.heap.size<=k)(h0:0<k) :
  (err=0/\(sp<=sp'/\sp'<=sp+3)/\∃ t',Z7 W1 base bs bv bx P true (N+480) G t' sp' V4/\OwnB V4 0 v' (rows t' 0 0)/\t'.high=g')\/(err=4/\fp W1 base bv P (N+1300) V4):=by
 rcases hr with⟨IE,h1,t',h2,h3,h4⟩|⟨IE,-,h2,-⟩
 .exact .inl ⟨IE,h1,t',(h2.J0 F3).setB F4 hk dC hb.1 h0,(h3.fr F3).setB F4 hk dC,h4⟩
 .exact .inr ⟨IE,(h2.J0 F3).setB F4 hk dC hb.2⟩
end
def sm.fZ (h:sm W1 b7 b10 m P v8 v9 V)(F:D1 base V V'):sm W1 b7 b10 m P v8 v9 V':=by
 obtain⟨tw,gw,v2,s2,rp,rs,h1,h2,h3,h4,h5⟩:=h;exact⟨tw,gw,v2,s2,rp,rs,h1,D1.heap F h2 dC,h3.fZ F,D1.heap F h4 dC,h5⟩
def sm.mono {m':Nat}(h:sm W1 b7 b10 m P v8 v9 V)(hm:m<=m'):sm W1 b7 b10 m' P v8 v9 V:=by
 obtain⟨tw,gw,v2,s2,rp,rs,⟨h1,h2,h3⟩,h4⟩:=h;exact⟨tw,gw,v2,s2,rp,rs,⟨h1,h2,nT h3 hm⟩,h4⟩
def sm.setB (h:sm W1 b7 b10 m P v8 v9 V)(F:Fr (fun b=>b=k) V V')(hk:V.heap[k]?=some (.cells c ty))(ht:ty≠220/\ty≠110)(h7:b7≠k)(OV:b10≠k):sm W1 b7 b10 m P v8 v9 V':=by
 obtain⟨tw,gw,v2,s2,rp,rs,h1,h2,h3,h4,h5⟩:=h;exact⟨tw,gw,v2,s2,rp,rs,h1,F.heap h2 h7,h3.setB F hk ht,F.heap h4 OV,h5⟩
def Zs (W1:w9)(bv bs bx br:Nat)(v7 v8 v9 v10:Value)(V:w9):Prop:=
 ∃ (b7 b10:Nat) (v:Value) (rp rs:Int),(v7 = pO b7/\v8 = iI 0/\v9 = iI 1/\v10 = pO b10)/\(br<b7/\br<b10/\b7≠b10)/\mo 2 W1 W1.heap.size bs bv bx uo false 12 1 (.leaf (0,0) []) 0 rp rs V /\
  (V.heap[br]?=some (.cells #[iI 0,iI 3,iI 3,v,iI 0] 137)/\OwnB V 0 v (rows (.leaf (0,0) []) 0 0))/\V.heap[b7]?=some (.cells #[iI 0,iI 3,iI 3,v,iI 0] 137)/\V.heap[b10]?=some (.cells #[iI rp,iI rs] 35)
def kZ0 {a fa:Option Addr}{n c fn fc:Nat}{l:List ut}{kd:Int}{fl:List Int}(hn:l.length=n)(w:w9)(hT:Tab w)(hA:FX w a l)(Fl:kd<=9223372036854775807)(U8:eO w fa fn fc fl)(o7:∀ z ∈ fl,-9223372036854775808<=z/\z<9223372036854775808) :
  cP 18 #[.agg #[sL a n c,iI kd,sL fa fn fc]] w fun e w'=>e = rT (bO true)/\Fq w w':=by
 have sH:=hT.lt;obtain⟨b1,E5⟩:=eX w.heap.size
 obtain⟨W1,M2⟩:=eX (w.alloc (.cells #[sL a n c,iI kd,sL fa fn fc] 145))
 have Ec:=fA M2
 have h1:W1.heap[b1]?=some (.cells #[sL a n c,iI kd,sL fa fn fc] 145):=by rw[<- M2,<- E5];exact han _ _
 have R6:=hid M2;have I3:=hid E5;have HT:=hid (hT.fr Ec id);have HA:=hid (hA.fr Ec);have HN:=hid hn;have rI:=hi2 (U8.fr Ec fun _ _ _ _ _ h=>h) o7;have HM:=hid (mn0 W1 HT.o);have jR:=hid fun V (F:Fq W1 V)=>cells3 (F.heap h1 id);have MU:=hid Ec;have zE:0<W1.heap.size:=E4 sH Ec.size;have hb1W:b1<W1:=M0 h1;obtain⟨x0,x1,x2,xz,xl⟩:=cells3 h1;clear hT hA hn M2 E5 U8 o7 Ec h1;go_enter func18,ntmps18;go_upto_region 1 with fail
 rw[R6,I3];by_cases h100:(100:Int)<(n:Int)
 .go_wp2_with fail
  exact bodyPost_ret (v:=bO true) sR rfl ⟨rfl,MU.o⟩
 by_cases h60:(60:Int)<(fn:Int)
 .go_wp2_with fail
  exact bodyPost_ret (v:=bO true) sR rfl ⟨rfl,MU.o⟩
 have Ks:n<=100:=oM
 have JT:fn<=60:=oM
 have aJ:=hid Ks;have HFn:=hid JT;go_wp2_with fail
 refine HM.mono ?_;rintro e w1 ⟨B,bx,bd,y,x0',r,rfl,F1,⟨E5,L4,P5⟩,hI,eF,Pu,-,JQ⟩;obtain⟨bs,U1⟩:=eX B.s
 obtain⟨bv,cZ⟩:=eX B.d
 have Se:=hid (show Z7 W1 W1.heap.size bs bv bx uo false 3 1 (.leaf (0,0) []) 0 w1 from⟨B,bd,y,x0',.leaf r [],hI,rfl,⟨E5,U1,cZ⟩,F1,⟨rfl,L4,P5⟩,Pu,JQ⟩);have E1:=hid F1;rw[show B.ptr = pO bs by rw[<- U1],cZ];clear F1 E5 L4 P5 hI eF HM U1 cZ Pu JQ x0 x1 x2 xz xl;go_wp2_with fail
 refine (zM0 _ 3 3).mono ?_;rintro e w2 ⟨v0,rfl,hO,F2⟩;obtain⟨va,vc,rfl⟩:=hO.slice;simp only[DN] at hO ⊢;obtain⟨br,lu⟩:=eX w2.heap.size
 obtain⟨w3,K7⟩:=eX (w2.alloc (.cells #[iI 0,iI 3,iI 3,sL va 1 vc,iI 0] 137))
 have q0:w3.heap[br]?=some (.cells #[iI 0,iI 3,iI 3,sL va 1 vc,iI 0] 137):=by rw[<- K7,<- lu];exact han _ _
 have F3:=fA K7
 have UB:W1<=br:=by rw[<- lu];exact (E1.trans F2 nI).size
 have H3:=hi2 ((Se.J0 F2).J0 F3) (aI q0 (hO.fr F3));have fx:=hid K7;have ZF:=hid lu;clear K7 lu hO F2 F3 q0 Se E1;go_upto_region 7 with fail
 rw[fx];try simp only[ZF.o]
 have Eh:=hid (pu0 H3.1 oM);go_wp2_with fail
 refine Eh.mono ?_;rintro _ V6 ⟨err,rfl,uC,⟨rfl,rp,rs,py⟩|⟨_,nV,_⟩⟩;rotate_left
 .cases nV
 have uM:=hid (tm0 py oM);have wg:=hid uC;clear py Eh uC;go_wp2_with fail
 refine uM.mono ?_;rintro _ V7 ⟨err,rfl,qw,⟨rfl,IV⟩|⟨_,nV,_⟩⟩;rotate_left
 .cases nV
 have AH:=D1.trans wg.o qw;have q7:=D1.heap AH H3.2.1 dC;have H7:=hi2 IV (aI q7 (H3.2.2.fZ AH));clear IV uM qw AH q7 wg H3 fx ZF;have jO:=hid fun (V:w9) (F:Fq V7 V)=>cells5 (F.heap H7.2.1 id);obtain⟨VD,P7⟩:=eX V7.drew
 have FD:Fq V7 VD:=by rw[<- P7];exact fR.drew
 have UA:br<V7:=M0 H7.2.1;go_upto_region 9 with fail
 go_cut [7,8,9,10] from 49 to 55 fun v7 v8 v9 v10 wx=>Zs W1 bv bs bx br v7 v8 v9 v10 wx
 case first =>
  refine wp_region_noPanic ?_;refine ur0 (fun V=>Fr (fun b=>V7<=b) V7 V) (.rd 0 (.rd 1 (.rd 3 (.rd 5 (Mt (.alt 9 (.rd 10 (.rd 11 (.alt 12 .done .nil))) .nil) 5 [2,4,6] [7,8]))))) kF kF kF (fun _ _ _ _ _ h=>h) (by rw[P7];exact FD.mono nE) ?_;rw[P7];clear P7;iterate 4
   try simp only[Act.put,sI,sZ,sS]
   refine YZ _ ?_ gF rF ?_ ?_;rotate_left
   .intro V hV;obtain⟨x0,x1,x2,x3,x4,xz,xl⟩:=cells5 (hV.heap H7.2.1 oM);go_simp;try with_reducible rfl
  iterate 5
   all_goals
    try simp only[Act.put,sI,sZ,sS]
    refine Mh _ gF rF (fun K hK=>?_) ?_;rotate_left;first
     | exact Mg
     | (refine Mh _ gF rF (fun K hK=>?_) ?_;rotate_left;first
       | exact Mg
       | (refine Mh _ gF rF (fun K hK=>?_) ?_;rotate_left;exact Mg))
    all_goals
     go_simp;first
      | ((with_reducible refine (WV (H7.o.1.kp.J0 FD)).mono ?_);rintro _ _ ⟨rfl,rfl⟩;refine hK _ _ (FD.mono nE) ?_;clear hK K)
      | ((with_reducible refine (xG0 (H7.o.1.kp.J0 FD)).mono ?_);rintro _ _ ⟨rfl,rfl⟩;refine hK _ _ (FD.mono nE) ?_;clear hK K)
      | ((with_reducible refine (tp0 (H7.o.1.J0 FD)).mono ?_);rintro _ V8 ⟨rfl,F8⟩;have FD:=FD.trans F8 nI;(try have k7:=F8.heap k7 id);(try have k10:=F8.heap k10 id);refine hK _ _ (FD.mono nE) ?_;clear hK K)
      | (generalize Jp:World.alloc _ (Obj.cells #[iI 0,iI 0,iI 0,sL none 0 0,iI 0] 137)=Vn;obtain⟨b7,E6,vp,k7,FD,FW⟩:=PY FD Jp;(try have hne:b10≠b7:=by have:=M0 k10;omega);(try have k10:=FW.heap k10 id);rw[<- E6];refine hK _ _ (FD.mono nE) ?_;clear hK K Jp E6 FW)
      | (generalize Jp:World.alloc _ (Obj.cells #[iI 0,iI 0] 35)=Vn;obtain⟨b10,sU,UW,k10,FD,FW⟩:=PY FD Jp;(try have hne:b10≠b7:=by have:=M0 k7;omega);(try have k7:=FW.heap k7 id);rw[<- sU];refine hK _ _ (FD.mono nE) ?_;clear hK K Jp sU FW)
  all_goals
   try simp only[Act.put,sI,sZ,sS]
   refine Mh _ gF rF (fun K hK=>?_) Mg;obtain⟨y0,y1,y2,y3,y4,yz,yl⟩:=cells5 k7;go_simp;generalize mG:World.setCell (World.setCell (World.setCell (World.setCell (World.setCell _ _ _) _ _) _ _) _ _) _ _=V9;obtain⟨k9,F9⟩:=Ir k7 mG;have gq:b7≠b10:=by first|exact hne|exact hne.symm
   have G9:Fr (fun b=>V7<=b) V7 V9:=(FD.mono nE).trans F9 (fun b _ h=>by rw[h];exact vp);have IW:=(H7.1.J0 FD).setB F9 k7 dC oM oM;have sF:=(H7.2.2.fr FD).setB F9 k7 dC;have q9:=F9.heap (FD.heap H7.2.1 id) oM;have o9:=F9.heap k10 fun e=>gq e.symm;refine hK _ _ G9 ?_;clear hK K mG y0 y1 y2 y3 y4 yz yl k7 k10 F9 FD hne;iterate 2
    try simp only[Act.put,sI,sZ,sS]
    refine YZ _ ?_ gF rF ?_ ?_;rotate_left
    .intro V hV;go_simp;try with_reducible rfl
   try simp only[Act.put,sI,sZ,sS]
   refine Mh _ gF rF (fun K hK=>?_) Mg;obtain⟨y0,y1,yz,yl⟩:=cells2 o9;go_simp;generalize Jo:World.setCell (World.setCell _ _ _) _ _=VA;obtain⟨oA,FA⟩:=pJ0 o9 Jo;have St:=hid (show Zs W1 bv bs bx br (pO b7) (iI 0) (iI 1) (pO b10) VA from⟨b7,b10,_,rp,rs,⟨rfl,rfl,rfl,rfl⟩,⟨oM,oM,gq⟩,IW.setB FA o9 dC oM oM,⟨FA.heap q9 oM,sF.setB FA o9 dC⟩,FA.heap k9 gq,oA⟩);refine hK _ _ (G9.trans FA fun b _ h=>by rw[h];exact UW) ?_;clear hK K Jo y0 y1 yz yl k9 FA G9 IW sF q9 o9 oA;refine zR0 ?_;refine NoPanic.normal ?_;try simp only[Act.put,sI,sZ,sS]
   go_wp2_with fail
   go_meet
   case rel=>exact St.o
 case rest =>
  obtain⟨b7,b10,v,rp,rs,⟨rfl,rfl,rfl,rfl⟩,cY,hL,hr,h7,OV⟩:=hcut;have GB:=hid (mt0 hL oM);have HR:=hi2 hr (aI h7 (aI OV cY));have HL:=hid hL;clear hL hr h7 OV H7 jO P7 FD UA;go_wp2_with fail
  (with_reducible refine GB.o.mono ?_)
  rintro _ V2 ⟨rfl,eH,P',sB,hC2⟩;have ZE:=hid (Bi0 sB kd Fl);have hF2:=sB.fr;have mh:=hi2 (D1.heap eH HR.1.1 dC) (aI (HR.1.2.fZ eH) (aI (D1.heap eH HR.2.1 dC) (aI (D1.heap eH HR.2.2.1 dC) (aI hC2 HR.2.2.2))));obtain⟨x0,x1,x2,xz,xl⟩:=jR.o V2 hF2;clear sB hC2 eH GB HR HL hF2;go_wp2_with fail
  (with_reducible refine ZE.o.mono ?_)
  rintro _ V3 ⟨rfl,eh,zu⟩;have uI:=hid (show MJ W1 bv bs bx br b7 b10 0 (iI 0) (iI 1) V3 from⟨P',12,1+1,.leaf (0,0) [],0,v,zu,⟨oM,oM,oM,oM⟩,⟨D1.heap eh mh.1 dC,mh.2.1.fZ eh⟩,.leaf (0,0) [],1,v,0,rp,rs,⟨rfl,rfl,oM⟩,D1.heap eh mh.2.2.1 dC,mh.2.1.fZ eh,D1.heap eh mh.2.2.2.1 dC,mh.2.2.2.2.1⟩);have cY:=mh.2.2.2.2.2;clear zu eh ZE mh x0 x1 x2 xz xl;go_upto_block 0 with fail
  go_cut [8,9] from 11 to 112 fun v8 v9 wx=>Mv W1 bv b7 b10 v8 v9 wx
  case first =>
   go_wp2_with fail
   go_loopw [8,9,11] (fun v8 v9 iv wr=>∃ m:Nat,m<=n/\iv = iI m/\MJ W1 bv bs bx br b7 b10 m v8 v9 wr) fun _ _ iv _=>n-(intOf iv).toNat
   case atStart=>exact⟨0,C3 _,rfl,uI.o⟩
   case round =>
    clear uI;obtain⟨m,hm,rfl,hW⟩:=hrel;obtain⟨P,N,G,t,sp,v,hK,Dm,⟨lu,Pb⟩,OZ⟩:=hW;obtain⟨x0,x1,x2,xz,xl⟩:=jR.o _ hK.fr;by_cases hlt:m<n
    .have Kl:(m:Int)<(n:Int):=oM;obtain⟨x,hx⟩:∃ x,l[m]?=some x:=⟨_,gE (by rw[HN.o];exact hlt)⟩
     obtain⟨b,off,Cm,UE,-,-,hok⟩:=HA.at_ m x hx;subst Cm;have yC:=hid (fun (V:w9) (F:Fq W1 V)=>show V.cell? (aA b (off+m*6))=some (iI x.kind)/\V.cell? (aA b (off+m*6+1))=some (iI x.oldest)/\V.cell? (aA b (off+m*6+2))=some (iU x.e.hash)/\V.cell? (aA b (off+m*6+3))=some (iI x.e.rg)/\V.cell? (aA b (off+m*6+4))=some (iI x.e.at_)/\V.cell? (aA b (off+m*6+5))=some (iI x.e.sz) from by
      obtain⟨b',off',e,-,⟨h0,h1⟩,⟨h2,h3,h4,h5⟩,-⟩:=(HA.fr F).at_ m x hx;cases e;exact⟨h0,h1,h2,h3,h4,h5⟩)
     have HX:=hid hok;obtain⟨g,hg⟩:=eX t.high
     have io:=hK.fr;have Ll:W1<=(wr:Nat):=io.size;have Nb:=hid (fun V (F:Fq wr V)=>vS0 (hK.J0 F) (Pb.fr F) (nT Ll F.size) (E4 zE (nT Ll F.size)) x hok (by have:=aJ.o;omega) ⟨Dm.2.2.1,by have:=aJ.o;omega⟩);obtain⟨a0,c0,rfl⟩:=Pb.slice;obtain⟨n0,lI⟩:=eX ((rows t 0 0).length)
     rw[lI,hg] at Nb;rw[lI,hg] at lu;have HC:=hid fun (V:w9) (F:D1 W1.heap.size wr V)=>aI (cells5 (D1.heap F lu dC)) (aI (jR V (F.J0 (nR _) io)) (yC V (F.J0 (nR _) io)));have HS:=hi2 Dm (aI lu (aI OZ (aI io hK)));clear hx hok UE hK Dm Pb lu OZ io lI hg;obtain⟨VD,P7⟩:=eX wr.drew
     have FD:Fq wr VD:=(by rw[<- P7];exact fR.drew);go_upto_region 15 with fail
     go_cut [12,13,14] from 69 to 80 fun v12 v13 v14 wx=>Rg W1 bv bs bx P N G sp wr v12 v13 v14 wx
     case first =>
      clear x0 x1 x2 xz xl;refine wp_region_noPanic ?_;refine q8 (fun V=>D1 W1.heap.size wr V) (.rd 0 (.rd 1 (.rd 2 (.rd 3 (.rd 4 (.rd 5 (.rd 6 (.two 7 12 (.rd 8 (.rd 9 (.rd 10 (.rd 11 (.op 12 (.op 13 (.rd 14 (.rd 15 .done)))))))) (.op 7 (.rd 8 (.rd 9 (.rd 10 (.rd 11 (.op 13 (.rd 14 (.rd 15 .done)))))))))))))))) kF kF kF (fun _ _ _ _ _ h=>h) (by rw[P7];exact D1.none FD) ?_;rw[P7];clear P7;iterate 7
       refine oP ?_ ?_ ?_;rotate_left
       .intro V hV;obtain⟨⟨x0,x1,x2,x3,x4,xz,xl⟩,⟨s0,s1,s2,sz,sl⟩,e0,e1,e2,e3,e4,e5⟩:=HC.o V hV;go_simp;try with_reducible rfl
      refine mu ?_ ?_;focus
       refine rQ fun K hK=>?_
       (with_reducible refine (Nb.o _ FD).mono ?_)
       rintro _ V2 ⟨v',g',sp',err,rfl,FI,hr⟩;obtain⟨va,vn,vc,rfl⟩:=xM0 hr;have eH:=D1.trans (D1.none FD) FI;refine hK _ _ eH ?_;clear hK K;iterate 4
        refine oR ?_
       refine rQ fun K hK=>?_;generalize T8:World.alloc _ (Obj.cells #[iI 0,iI 0,iI 0,sL none 0 0,iI 0] 137)=V3;obtain⟨b12,iQ,-,k3,-,F3⟩:=PY (Fr.refl (fun _=>False) V2) T8;rw[<- iQ];have mX:wr<=b12:=(by rw[iQ];exact eH.size);have eh:=D1.trans eH (D1.none F3);refine hK _ _ eh ?_;clear hK K T8 iQ FI eH;refine rP fun K hK=>?_;obtain⟨y0,y1,y2,y3,y4,yz,yl⟩:=cells5 k3;go_simp;generalize O4:World.setCell (World.setCell (World.setCell (World.setCell (World.setCell _ _ _) _ _) _ _) _ _) _ _=V4;obtain⟨k4,F4⟩:=Ir k3 O4;have AI:D1 W1.heap.size wr V4:=Fr.trans eh F4 fun b hb e=>oM;have GC:=hid (show Rg W1 bv bs bx P N G sp wr (pO b12) (iI err) (bO true) V4 from⟨b12,g',va,vn,vc,sp',err,⟨rfl,rfl,rfl⟩,AI,mX,k4,xL0 hr F3 F4 k3 oM oM⟩);refine hK _ _ AI ?_;clear hK K O4 y0 y1 y2 y3 y4 yz yl k3 k4 F3 F4 eh AI hr mX;iterate 2
        refine oR ?_
       refine o5 ?_;refine NoPanic.normal ?_;try simp only[Act.put,sI,sZ,sS]
       go_wp2_with fail
       go_meet
       case rel=>exact GC.o
      focus
       refine rQ fun K hK=>?_;generalize vg:World.alloc _ (Obj.cells #[iI 0,iI 0,iI 0,sL none 0 0,iI 0] 137)=V1;obtain⟨b12,iQ,mX,k1,F1,-⟩:=PY FD vg;rw[<- iQ];refine hK _ _ (D1.none F1) ?_;clear hK K vg iQ;refine rQ fun K hK=>?_
       (with_reducible refine (Nb.o _ F1).mono ?_)
       rintro _ V3 ⟨v',g',sp',err,rfl,FI,hr⟩;obtain⟨va,vn,vc,rfl⟩:=xM0 hr;have eh:=D1.trans (D1.none F1) FI;have k3:=D1.heap FI k1 dC;refine hK _ _ eh ?_;clear hK K FI k1;iterate 4
        refine oR ?_
       refine rP fun K hK=>?_;obtain⟨y0,y1,y2,y3,y4,yz,yl⟩:=cells5 k3;go_simp;generalize O4:World.setCell (World.setCell (World.setCell (World.setCell (World.setCell _ _ _) _ _) _ _) _ _) _ _=V4;obtain⟨k4,F4⟩:=Ir k3 O4;have AI:D1 W1.heap.size wr V4:=Fr.trans eh F4 fun b hb e=>oM;have GC:=hid (show Rg W1 bv bs bx P N G sp wr (pO b12) (iI err) (bO true) V4 from⟨b12,g',va,vn,vc,sp',err,⟨rfl,rfl,rfl⟩,AI,mX,k4,xL0 hr fR F4 k3 oM oM⟩);refine hK _ _ AI ?_;clear hK K O4 y0 y1 y2 y3 y4 yz yl k3 k4 F1 F4 eh AI hr mX;iterate 2
        refine oR ?_
       refine o5 ?_;refine NoPanic.normal ?_;try simp only[Act.put,sI,sZ,sS]
       go_wp2_with fail
       go_meet
       case rel=>exact GC.o
     case rest =>
      obtain⟨b12,g',va,vn,vc,sp',err,⟨rfl,rfl,rfl⟩,FI,mX,k12,hr⟩:=hcut;clear P7 FD Nb;rcases hr with⟨rfl,Lf,t',hK',hO',om⟩|⟨rfl,hD⟩
      rotate_left
      .have HX:=hid (show Mv W1 bv b7 b10 u8 u9 wc from⟨P,(hD.over rfl).mono (by have:=HS.1;have:=aJ.o;omega),(HS.2.2.1.fZ FI).mono (by have:=aJ.o;omega)⟩);clear hD FI k12 mX;go_wp2_with fail
       go_meet
       case rel=>exact HX.o
      have pG:wc.heap[br]?=some (.cells #[iI g,iI 3,iI 3,sL a0 n0 c0,iI sp] 137):=D1.heap FI HS.2.1 dC;obtain⟨x0,x1,x2,x3,x4,xz,xl⟩:=cells5 pG;obtain⟨z0,z1,z2,z3,z4,zz,zl⟩:=cells5 k12;obtain⟨V5,M5⟩:=eX (((((wc.setCell br (iI g')).setCell (aA br 1) (iI 3)).setCell (aA br 2) (iI 3)).setCell (aA br 3) (sL va vn vc)).setCell (aA br 4) (iI sp'))
      obtain⟨k5,F5⟩:=Ir pG M5;have Ue:=hK'.setB F5 pG dC UB oM;have HV5:=hid M5;have H5:=hi2 Ue (aI k5 (aI (hO'.setB F5 pG dC) (aI ((HS.2.2.1.fZ FI).setB F5 pG dC oM oM) Ue.fr)));have fX:=hi2 HS.1 (aI Lf om);clear M5 F5 pG k5 Ue hK' hO' Lf om FI mX k12 HS;go_upto_region 20 with fail
      rw[HV5];clear x0 x1 x2 x3 x4 xz xl z0 z1 z2 z3 z4 zz zl HV5;obtain⟨e0,-,-,-,-,-⟩:=yC.o _ H5.2.2.2.2;obtain⟨s0,s1,s2,sz,sl⟩:=jR.o _ H5.2.2.2.2;obtain⟨uy,Wj⟩:=eX ((wrap64 (x.kind.tmod 8+8)).tmod 8)
      by_cases h6:(6:Int)<=uy
      .have Eh:=hid (pu0 H5.1 (by have:=aJ.o;have:=fX.1;omega));go_wp2_with fail
       refine Eh.mono ?_;rintro _ V6 ⟨err,rfl,uC,⟨rfl,rp',rs',py⟩|⟨rfl,-,hD⟩⟩;rotate_left
       .have HX:=hid (show Mv W1 bv b7 b10 u8 u9 V6 from⟨P,(hD.over rfl).mono (by have:=fX.1;have:=aJ.o;omega),(H5.2.2.2.1.fZ uC).mono (by have:=aJ.o;omega)⟩);clear hD uC s0 s1 s2 sz sl e0 Eh;go_wp2_with fail
        go_meet
        case rel=>exact HX.o
       have uM:=hid (tm0 py (by have:=aJ.o;have:=fX.1;omega));have wg:=hid uC;clear py Eh e0 uC s0 s1 s2 sz sl;go_wp2_with fail
       refine uM.mono ?_;rintro _ V7 ⟨err,rfl,qw,⟨rfl,IV⟩|⟨rfl,-,hD⟩⟩;rotate_left
       .have HX:=hid (show Mv W1 bv b7 b10 u8 u9 V7 from⟨P,(hD.over rfl).mono (by have:=fX.1;have:=aJ.o;omega),((H5.2.2.2.1.fZ wg.o).fZ qw).mono (by have:=aJ.o;omega)⟩);clear hD qw uM;go_wp2_with fail
        go_meet
        case rel=>exact HX.o
       have rB:=D1.trans wg.o qw;have wl:=hid IV;have GB:=hid (fun V (F:mo 2 W1 W1.heap.size bs bv bx P true (N+480+8+1) G t' sp' rp' rs' V)=>mt0 F (by have:=aJ.o;have:=fX.1;omega));obtain⟨tw,gw,v2,s2,rp,rs,⟨rfl,rfl,Fh⟩,k7,zy,k10,hC⟩:=H5.2.2.2.1;have AN:=D1.heap rB H5.2.1 dC;have GA:=D1.heap rB k7 dC;have Gz:=D1.heap rB k10 dC;have lZ:=hid (H5.2.2.1.fZ rB);have jO:=hid fun (V:w9) (F:Fr (fun b=>b=b7\/b=b10) V7 V)=>cells5 (F.heap AN oM);have Ni:=hi2 AN (aI GA Gz);clear IV uM qw rB AN GA Gz k7 zy k10 hC;obtain⟨VD,P7⟩:=eX V7.drew
       have FD:Fq V7 VD:=(by rw[<- P7];exact fR.drew);go_upto_region 22 with fail
       refine wp_region_noPanic ?_;refine q8 (fun V=>Fr (fun b=>b=b7\/b=b10) V7 V) (.rd 0 (.rd 1 (.rd 3 (.rd 5 (.op 2 (.op 4 (.op 6 (.op 7 (.rd 8 (.rd 9 (.op 10 .done))))))))))) kF kF kF (fun _ _ _ _ _ h=>h) (by rw[P7];exact FD.mono nE) ?_;rw[P7];clear P7;iterate 4
        refine oP ?_ ?_ ?_;rotate_left
        .intro V hV;obtain⟨x0,x1,x2,x3,x4,xz,xl⟩:=jO.o V hV;go_simp;try with_reducible rfl
       refine rQ fun K hK=>?_
       (with_reducible refine (WV (wl.o.kp.J0 FD)).mono ?_)
       rintro _ _ ⟨rfl,rfl⟩;refine hK _ _ (FD.mono nE) ?_;clear hK K;refine rQ fun K hK=>?_
       (with_reducible refine (xG0 (wl.o.kp.J0 FD)).mono ?_)
       rintro _ _ ⟨rfl,rfl⟩;refine hK _ _ (FD.mono nE) ?_;clear hK K;refine rQ fun K hK=>?_
       (with_reducible refine (tp0 (wl.o.J0 FD)).mono ?_)
       rintro _ V8 ⟨rfl,F8⟩;have F8:=FD.trans F8 nI;refine hK _ _ (F8.mono nE) ?_;clear hK K FD;refine rP fun K hK=>?_;have k8:=F8.heap Ni.2.1 id;obtain⟨y0,y1,y2,y3,y4,yz,yl⟩:=cells5 k8;go_simp;generalize mG:World.setCell (World.setCell (World.setCell (World.setCell (World.setCell _ _ _) _ _) _ _) _ _) _ _=V9;obtain⟨k9,F9⟩:=Ir k8 mG;have o9:=F9.heap (F8.heap Ni.2.2 id) oM;have b9:=F9.heap (F8.heap Ni.1 id) oM;have IW:=(wl.J0 F8).setB F9 k8 dC oM oM;have sF:=(lZ.fr F8).setB F9 k8 dC;have G9:Fr (fun b=>b=b7\/b=b10) V7 V9:=(F8.mono nE).trans F9 fun b _ h=>.inl h;refine hK _ _ G9 ?_;clear hK K mG y0 y1 y2 y3 y4 yz yl k8 F9 F8;iterate 2
        refine oR ?_
       refine rP fun K hK=>?_;obtain⟨y0,y1,yz,yl⟩:=cells2 o9;go_simp;generalize Jo:World.setCell (World.setCell _ _ _) _ _=VA;obtain⟨oA,FA⟩:=pJ0 o9 Jo;have lR:=hi2 (IW.setB FA o9 dC oM oM) (aI (FA.heap b9 oM) (aI (FA.heap k9 oM) (aI oA (sF.setB FA o9 dC))));refine hK _ _ (G9.trans FA fun b _ h=>.inr h) ?_;clear hK K Jo y0 y1 yz yl o9 b9 k9 IW sF G9 oA FA;refine o5 ?_;refine NoPanic.normal ?_;try simp only[Act.put,sI,sZ,sS]
       have yE:=hid (GB.o _ lR.1);clear GB;go_wp2_with fail
       (with_reducible refine yE.o.mono ?_)
       rintro _ VB ⟨rfl,Ee,P',EX,hCB⟩;have HW:=hid (show MJ W1 bv bs bx br b7 b10 (m+1) (iI t'.high) (iI G) VB from⟨P',_,_,t',sp',_,EX,⟨by have:=fX.1;omega,by have:=fX.1;omega,by have:=fX.1;have:=fX.2.1;omega,by have:=fX.1;have:=fX.2.1;omega⟩,⟨by have:=D1.heap Ee lR.2.1 dC;rw[fX.2.2];exact this,lR.2.2.2.2.fZ Ee⟩,t',G,_,sp',rp',rs',⟨rfl,rfl,by have:=fX.1;omega⟩,by have:=D1.heap Ee lR.2.2.1 dC;rw[fX.2.2];exact this,lR.2.2.2.2.fZ Ee,D1.heap Ee lR.2.2.2.1 dC,hCB⟩);clear EX hCB Ee yE lR wl Ni lZ jO;go_wp2_with fail
       go_roundw;case rel=>exact⟨m+1,oM,by go_num,HW.o⟩
       case measure=>exact wM
      .have HW:=hid (show MJ W1 bv bs bx br b7 b10 (m+1) u8 u9 V5 from⟨P,_,_,t',sp',_,H5.1,⟨by have:=fX.1;omega,by have:=fX.1;omega,by have:=fX.1;have:=fX.2.1;omega,by have:=fX.1;have:=fX.2.1;omega⟩,⟨by rw[fX.2.2];exact H5.2.1,H5.2.2.1⟩,H5.2.2.2.1.mono oM⟩);go_wp2_with fail
       go_roundw;case rel=>exact⟨m+1,oM,by go_num,HW.o⟩
       case measure=>exact wM
    .obtain rfl:m=n:=by omega
     have hd:¬ (m:Int)<(m:Int):=oM;have HX:=hid (show Mv W1 bv b7 b10 u8 u9 wr from⟨P,hK.over.mono (by have:=aJ.o;omega),OZ.mono (by have:=aJ.o;omega)⟩);clear hK lu Pb OZ;go_wp2_with fail
     go_meet
     case rel=>exact HX.o
  case rest =>
   obtain⟨P,hE,tw,gw,v2,s2,rp,rs,⟨rfl,rfl,Fh⟩,k7,zy,k10,hC⟩:=hcut;obtain⟨x0,x1,x2,xz,xl⟩:=jR.o _ hE.fr;have ZH:=hid (wy0 hE oM rI.1 HFn.o rI.2);have HP:=hi2 k7 (aI zy (aI k10 (aI hC Fh)));clear hE k7 zy k10 hC uI;go_wp2_with fail
   (with_reducible refine ZH.o.mono ?_)
   rintro _ V2 ⟨rfl,eH,hR⟩;have RV:=hid (zk0 hR oM);have Es:=hi2 (D1.heap eH HP.1 dC) (aI (HP.2.1.fZ eH) (aI (D1.heap eH HP.2.2.1 dC) (aI HP.2.2.2.1 hR)));clear eH hR ZH x0 x1 x2 xz xl;go_wp2_with fail
   (with_reducible refine RV.o.mono ?_)
   rintro _ V3 ⟨bb,rfl,F3⟩;have qX:=Es.2.2.2.2.J0 F3;have pD:=HT.fr qX.fr id;have k7:=F3.heap Es.1 id;have zy:=Es.2.1.fr F3;have k10:=F3.heap Es.2.2.1 id;have Fh:=HP.2.2.2.2;clear RV F3;cases bb with
   | true =>
    have Ry:=hid (jg0 _ pD);have N5:=hid qX.fr;clear qX pD k7 zy k10;go_wp2_with fail
    refine Ry.mono ?_;rintro _ V4 ⟨rfl,F4⟩;have p8:=hid (MU.trans (N5.trans F4 nI) nI);clear F4;go_wp2_with fail
    exact bodyPost_ret (v:=bO true) sR rfl ⟨rfl,p8.o⟩
   | false =>
    have jT:=hid fun V (F:Fq V3 V)=>wu0 (gen:=gw) (qX.J0 F) (pD.fr F id) zE oM Es.2.2.2.1 oM;have cN:=hi2 k7 (aI zy k10);clear qX pD k7 zy k10 Es;go_wp2_with fail
    (with_reducible refine (jC0 _).mono ?_)
    rintro _ V4 ⟨rfl,F4⟩;have HSq:=hid (jT.o _ F4);have p8:=hid F4;clear F4;go_wp2_with fail
    (with_reducible refine HSq.o.mono ?_)
    rintro _ V5 ⟨bs',rfl,F5,hSO⟩;have Rn:=p8.trans F5 nI;have ZR:=hid (wx0 hSO oM);have fT:=hid Rn;obtain⟨y0,y1,yz,yl⟩:=cells2 (Rn.heap cN.2.2 id);clear hSO F5 Rn HSq;go_wp2_with fail
    (with_reducible refine ZR.o.mono ?_)
    rintro _ V6 ⟨bx',P',rfl,uC,dI,-⟩;have AG:=D1.trans (D1.none fT.o) uC;have WL:=D1.heap AG cN.1 dC;have xf:=cN.2.1.fZ AG;have Sq:=hid (nK0 dI xf dI.kp.fr.size oM (sp':=s2));obtain⟨a2,c2,rfl⟩:=xf.slice;obtain⟨n2,ey⟩:=eX ((rows tw 0 0).length)
    obtain⟨g2,db⟩:=eX tw.high
    rw[ey,db] at Sq WL;obtain⟨x0,x1,x2,x3,x4,xz,xl⟩:=cells5 WL;clear dI xf uC AG ZR y0 y1 yz yl ey WL;go_wp2_with fail
    (with_reducible refine Sq.o.mono ?_)
    rintro _ V7 ⟨rfl,hK7,-⟩;have nw:=hid (ww0 hK7 oM);clear hK7 Sq x0 x1 x2 x3 x4 xz xl;go_wp2_with fail
    (with_reducible refine nw.o.mono ?_)
    rintro _ V8 ⟨pa,pc,ps,rfl,X9,A0,Uf,-⟩;have gQ:=hid (wv0 Uf);have Sz:=hi2 A0 Uf.kp.fr;clear A0 Uf nw;go_wp2_with fail
    (with_reducible refine gQ.o.mono ?_)
    rintro _ V9 ⟨v0,t1,t2,t3,m1,m2,m3,r1,r2,r3,y9,rfl,hI,LE,F9⟩;have LF:tu y9.taken y9.pages=ps:=LE;rw[LF] at hI;obtain⟨ta,tcap,rfl,hcell⟩:=hI;have hF9:=Sz.2.trans F9 nI;have oL:=hid (fun (i:Nat) (hi:i<ps.length)=>show ∃ (ga gb:Nat) (k:Int),pa=some ⟨ga,0,none⟩/\ta=some ⟨gb,0,none⟩/\∀ V,Fq V9 V->ga<V.heap.size/\gb<V.heap.size/\V.cell? (aA ga i)=some (iI k)/\V.cell? (aA gb i)=some (iI k) from by
     have hk:ps[i]?=some (ps[i]'hi):=gE hi;generalize ps[i]'hi=k at hk;obtain⟨ga,e1,h1,h2⟩:=d8 (oN Sz.1 F9) (show (ps.map (Value.int .i64))[i]?=some (iI k) by rw[gP,hk];rfl);obtain⟨gb,e2,h3,h4⟩:=hcell i k hk;exact⟨ga,gb,k,e1,e2,fun V F=>⟨E4 h1 F.size,E4 h3 F.size,(F.cell (p:=⟨ga,_,none⟩) h1 id).trans h2,(F.cell (p:=⟨gb,_,none⟩) h3 id).trans h4⟩⟩)
    have uH:=hid hF9;obtain⟨pn,xI⟩:=eX ps.length
    rw[xI] at oL X9 ⊢;have aX:((pn:Int) != (pn:Int))=false:=sP;have lD:∀ (v0 v1 v2 v3:Value) W,(Instr.field 54 (.agg #[v0,v1,v2,v3]) 0).run prog W = .ok v0 W:=fun _ _ _ _ W=>by kernel_rfl
    clear hcell hF9 F9 LE LF Sz gQ;go_wp2_with fail
    go_loopw [22] (fun iv wr=>∃ i:Nat,i<=pn/\iv = iI i/\Fq V9 wr) fun iv _=>pn-(intOf iv).toNat
    case atStart=>exact⟨0,C3 _,rfl,fR⟩
    case round =>
     obtain⟨wo,rfl⟩:∃ W:World,W=wr:=⟨_,rfl⟩
     obtain⟨i,T4,rfl,qW⟩:=hrel;by_cases hlt:i<pn
     .have xy:(i:Int)<(pn:Int):=oM;obtain⟨ga,gb,k,rfl,rfl,hce⟩:=oL.o i hlt;have HC:=hid hce;have HFo2:=hid qW;have AE:Fq V9 wo.drew:=qW.drew;clear hce qW;go_upto_region 38 with fail
      refine wp_region_noPanic ?_;refine q8 (fun V=>Fq V9 V) (.rd 0 (.rd 1 (.rd 2 (.rd 3 (.rd 4 (.rd 5 (.rd 6 (.rd 7 (.rd 8 .done))))))))) kF kF kF (fun _ _ _ _ _ h=>h) AE ?_;have ag:((k:Int) != (k:Int))=false:=sP;iterate 9
       refine oP ?_ ?_ ?_;rotate_left
       .intro V hV;obtain⟨g1,g2,g3,g4⟩:=HC.o V hV;go_simp;try with_reducible rfl
      refine o5 ?_;refine NoPanic.normal ?_;try simp only[Act.put,sI,sZ,sS]
      go_wp2_with fail
      go_roundw;case rel=>exact⟨i+1,hlt,by go_num,AE⟩
      case measure=>exact wM
     .obtain rfl:i=pn:=by omega
      have xy:¬ (i:Int)<(i:Int):=oM;have hF:=uH.trans qW nI;have Ry:=hid (jg0 wo (HT.fr hF id));have HFx:=hid hF;clear hF qW;go_wp2_with fail
      refine Ry.mono ?_;rintro _ yR ⟨rfl,F10⟩;have we:=hid (MU.trans (HFx.trans F10 nI) nI);clear F10;go_wp2_with fail
      exact bodyPost_ret (v:=bO true) sR rfl ⟨rfl,we.o⟩
