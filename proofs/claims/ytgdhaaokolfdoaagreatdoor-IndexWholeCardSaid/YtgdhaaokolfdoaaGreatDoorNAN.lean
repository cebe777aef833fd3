/- A pack of texts. Conditions: those that each names. -/
import Derived.Test.YtgdhaaokolfdoaaGreatDoorNAM
import Derived.Test.YtgdhaaokolfdoaaGreatDoorNAI
set_option maxHeartbeats 16000000
set_option maxRecDepth 100000
set_option linter.all false
namespace Go.Proofs.YtgdhaaokolfdoaaGreatDoor
open Tryz
section
open Go.RowKit Go.Sg Go.Sg.Bits Go.Sg.r4 CP
def qV0 {p:R8}(h:eS p=true):(0<=(S6 p).page/\1<=(S6 p).pages/\(S6 p).pages<=16384/\(S6 p).page+(S6 p).pages=p.C0)/\8<=p.memory/\p.memory<=256:=by
 rw[eS,uh] at h;obtain⟨h1,h2⟩:=h;obtain⟨a1,a2,a3,a4,a5,a6,a7⟩:=of_decide_eq_true h1;obtain⟨b1,b2⟩:=of_decide_eq_true h2;obtain⟨m0,m1⟩:=QL (show 0<=p.regions by omega) a3.2 (show 0<=p.T2 by omega) a4.2;have hm:(1:Int)<=2^p.depth.toNat:=Int.pow_pos oM;simp only[S6] at b2 ⊢;generalize (2:Int)^p.depth.toNat=many at *
 have u0:0<=(many+(p.size-19)/12-1)/((p.size-19)/12):=Int.ediv_nonneg oM oM;generalize (many+(p.size-19)/12-1)/((p.size-19)/12)=q at *
 generalize p.regions*p.T2=r at *
 omega
namespace SF
def Mz (p:R8)(gen:Nat)(D:Dev):T3:=
 ⟨p,(S6 p).page,(S6 p).pages.toNat,D.size-19,gen+1,0,fun _=>false,fun _=>false,fun _=>false,fun _=>false,fun _=>none,p.memory.toNat,D⟩
def Xj (base d bf bq:Nat)(p:R8)(gen:Nat)(D:Dev)(w:w9)(e:Ending)(w':w9):Prop:=
 ∃ B:P0,(B.base=base/\B.d=d/\B.bf=bf/\B.bq=bq)/\e = rT (tU #[B.ptr,iI 0])/\X1 w' B (Mz p gen D)/\Fq w w'
def tR0 {w:w9}{base d bf bq:Nat}{D:Dev}(h:Q4 w base d bf bq D)(hb:base<=w)(c dd f dp hh s:Int)(gen:Nat)(hg:gen<=1099511627776)(O3:eS ⟨D.C0,D.size,c,dd,f,dp,hh,s⟩=true) :
  cP 30 #[pO d,(R8.mk D.C0 D.size c dd f dp hh s).val,iI gen] w (Xj base d bf bq ⟨D.C0,D.size,c,dd,f,dp,hh,s⟩ gen D w):=by
 have jP:=hid fun W=>Yq ⟨D.C0,D.size,c,dd,f,dp,hh,s⟩ W;rw[O3] at jP;obtain⟨lv,hd,oa⟩:=h.dc;have e0:=G0 hd 0;have e1:=G0 hd 1;simp at e0 e1;have ld:=M0 hd;have E3:=h.rg.2.1;have fP:=h.rg.2.2;obtain⟨w1,I0⟩:=eX (w.alloc (.cells #[iI D.C0,iI D.size,iI c,iI dd,iI f,iI dp,iI hh,iU s] 31))
 have F1:=fA I0
 have b1:=fB I0
 have lb1:=M0 b1;have j0:=G0 b1 0;have j1:=G0 b1 1;have j2:=G0 b1 2;have j3:=G0 b1 3;have j4:=G0 b1 4;have j5:=G0 b1 5;have j6:=G0 b1 6;have j7:=G0 b1 7;simp at j0 j1 j2 j3 j4 j5 j6 j7;have H:=hid h;have HD:=hid hd;have HLO:=hid oa;have HW:=hid I0;have E1:=hid F1;have I3:=hid b1;have RT:=hid O3;clear h hd oa I0 F1 b1 O3;go_enter func30,ntmps30;go_wp2_with fail
 rw[HW];refine (jP _).mono ?_;rintro e w2 ⟨rfl,F2⟩;have FF:=hid (E1.trans F2 nI);have b2:=hid (F2.heap I3 id);have k0:=G0 b2.o 0;have k1:=G0 b2.o 1;have k2:=G0 b2.o 2;have k3:=G0 b2.o 3;have k4:=G0 b2.o 4;have k5:=G0 b2.o 5;have k6:=G0 b2.o 6;have k7:=G0 b2.o 7;simp at k0 k1 k2 k3 k4 k5 k6 k7;have xU:=M0 b2.o;have g0:=(FF.cell (p:=⟨d,0,none⟩) ld id).trans e0;have g1:=(FF.cell (p:=⟨d,1,none⟩) ld id).trans e1;have Xl:=E4 ld FF.size;clear F2 j0 j1 j2 j3 j4 j5 j6 j7 e0 e1;have nV:=qV0 RT.o;simp only at nV;generalize Kj:S6 ⟨D.C0,D.size,c,dd,f,dp,hh,s⟩=y at nV;obtain⟨ya,yb,yc,yd,ye,yf,yg⟩:=y;simp only at nV;obtain⟨⟨q1,q2,q3,q4⟩,q5,q6⟩:=nV;obtain⟨pn,rfl⟩:=iZ (show 0<=yc by omega);obtain⟨mn,rfl⟩:=iZ (show 0<=hh by omega);have HQ:=hid q4;have HY:=hid Kj;clear Kj q4;simp only[if_true,Lay.val];go_wp2
 obtain⟨w3,K7⟩:=eX (w2.alloc (.cells #[iI 2,iI ya,iI yb,iI pn,iI yd,iI ye,iI yf,iI yg] 169))
 have Z9:=fA K7
 have b3:=fB K7
 rw[K7];have m0:=(Z9.cell (p:=⟨w,0,none⟩) xU id).trans k0;have m1:=(Z9.cell (p:=⟨w,1,none⟩) xU id).trans k1;have m2:=(Z9.cell (p:=⟨w,2,none⟩) xU id).trans k2;have m3:=(Z9.cell (p:=⟨w,3,none⟩) xU id).trans k3;have m4:=(Z9.cell (p:=⟨w,4,none⟩) xU id).trans k4;have m5:=(Z9.cell (p:=⟨w,5,none⟩) xU id).trans k5;have m6:=(Z9.cell (p:=⟨w,6,none⟩) xU id).trans k6;have m7:=(Z9.cell (p:=⟨w,7,none⟩) xU id).trans k7;have x2:=G0 b3 2;have x3:=G0 b3 3;simp at x2 x3;have h0:=(Z9.cell (p:=⟨d,0,none⟩) Xl id).trans g0;have h1:=(Z9.cell (p:=⟨d,1,none⟩) Xl id).trans g1;have HS:=hid fun (n:Nat)=>jG0 (w:=w3.drewN n) h0;have HZ:=hid fun (n:Nat)=>size_at (w:=w3.drewN n) h1;have G3:=hid (FF.trans Z9 nI);have lw3:=M0 b3;have lb3:w.heap.size<w3.heap.size:=oM
 have cN:=hid b3;clear k0 k1 k2 k3 k4 k5 k6 k7 g0 g1 h0 h1 Z9 K7 b3 Xl;go_quiet (first|(go_at_call 92;exact EJ (HS _))|(go_at_call 93;exact EJ (HZ _)))
 go_wp2
 have io:IntKind.i64.wrap ((gen:Int)+1)=(gen:Int)+1:=by rw[IntKind.wrap_i64];omega
 have M1:(96:Int)<=D.size:=oM
 have O1:(D.size:Int)<=512:=oM
 go_region_held3 (fun W=>W.cell? w=some (iI D.C0)/\W.cell? (aA w 1)=some (iI D.size)/\W.cell? (aA w 2)=some (iI c)/\W.cell? (aA w 3)=some (iI dd)/\W.cell? (aA w 4)=some (iI f)/\W.cell? (aA w 5)=some (iI dp)/\W.cell? (aA w 6)=some (iI mn)/\W.cell? (aA w 7)=some (iU s)/\W.cell? (aA w2 2)=some (iI yb)/\W.cell? (aA w2 3)=some (iI pn))
  (go_keep)
  ((go_at_call 94;refine (PO _ M1 O1 _).mono ?_;rintro e w5 ⟨rfl,rfl⟩))
 clear io;go_wp2_with fail
 obtain⟨w6,ot⟩:=eX ((w3.drewN (nq+1)).alloc (.cells #[pO d,iI D.C0,iI D.size,iI c,iI dd,iI f,iI dp,iI mn,iU s,iI yb,iI pn,iI (D.size-19),iI (gen+1),pO none,.map none,.map none,.map none,pO none] 156))
 have Ro:Fq w3 w6:=by rw[<- ot];exact (fR.drewN _).alloc _
 have s6:w6.heap[w3.heap.size]?=some (.cells #[pO d,iI D.C0,iI D.size,iI c,iI dd,iI f,iI dp,iI mn,iU s,iI yb,iI pn,iI (D.size-19),iI (gen+1),pO none,.map none,.map none,.map none,pO none] 156):=by
  rw[<- ot];exact han (w3.drewN (nq+1)) _
 rw[ot];refine (rz0 pn oM oM _).mono ?_;rintro e w7 ⟨bs,bw,rfl,ko,U1,ly,F7⟩;have l6:=M0 s6;have s7:=F7.heap s6 id;have c13:=G0 s7 13;simp at c13;have cz7:∀ o,w7.frozen? ⟨w3,o,none⟩=false:=fun o=>X2 s7 o
 have l7:=M0 s7;have p6:=((Ro.trans F7 nI).cell (p:=⟨w,6,none⟩) lb3 id).trans m6;have n63:¬ w3.heap.size=w.heap.size:=oM
 have G7:=hid (G3.trans (Ro.trans F7 nI) nI);have RB:=hid ko;have rS:=hid s7;have HN:=hi2 U1 ly;have RR:=F7.size;have Nl:=hid l6;clear ot Ro s6 ko F7 s7 m0 m1 m2 m3 m4 m5 m6 m7 x2 x3 U1 ly RR;go_wp2_with fail
 obtain⟨w8,pW⟩:=eX (w7.setCell (aA w3 13) (pO bs))
 have nk:Fr (fun b=>b=w3.heap.size) w7 w8:=by rw[<- pW];exact (Fr.refl (fun b=>b=w3.heap.size) _).setCell (a:=⟨w3,13,none⟩) (fun _=>rfl) _
 have s8:w8.heap[w3.heap.size]?=some (.cells #[pO d,iI D.C0,iI D.size,iI c,iI dd,iI f,iI dp,iI mn,iU s,iI yb,iI pn,iI (D.size-19),iI (gen+1),pO bs,.map none,.map none,.map none,pO none] 156):=by
  rw[<- pW,hsc _ _ _ _ rS];simp
 rw[pW];refine (tY0 mn oM oM _).mono ?_;rintro e w9z ⟨rfl,aW,F9⟩;have AZ:=hid (M0 s8);have s9:=F9.heap s8 id;have c14:=G0 s9 14;have c15:=G0 s9 15;have c16:=G0 s9 16;have c17:=G0 s9 17;simp at c14 c15 c16 c17;have cz9:∀ o,w9z.frozen? ⟨w3,o,none⟩=false:=fun o=>X2 s9 o
 have l9:=M0 s9;have HM:=hid aW;have yM:=hid s9;have ZC:=hi2 nk F9;have vA:=fun (t:TypeId) (W:w9)=>run_makeMap (P:=prog) t W
 clear pW nk s8 aW s9 F9 c13 cz7 p6;go_upto_region 11 with (fail)
 obtain⟨w10,ji⟩:=eX (w9z.setCell (aA w3 17) (pO (aP (w8+2) 0)))
 have Gs:Fr (fun b=>b=w3.heap.size) w9z w10:=by rw[<- ji];exact (Fr.refl (fun b=>b=w3.heap.size) _).setCell (a:=⟨w3,17,none⟩) (fun _=>rfl) _
 have s10:w10.heap[w3.heap.size]?=some (.cells #[pO d,iI D.C0,iI D.size,iI c,iI dd,iI f,iI dp,iI mn,iU s,iI yb,iI pn,iI (D.size-19),iI (gen+1),pO bs,.map none,.map none,.map none,pO (aP (w8+2) 0)] 156):=by
  rw[<- ji,hsc _ _ _ _ yM];simp
 rw[ji];have d14:=G0 s10 14;have d15:=G0 s10 15;have d16:=G0 s10 16;simp at d14 d15 d16;have Tk:∀ o,w10.frozen? ⟨w3,o,none⟩=false:=fun o=>X2 s10 o
 have l10:=M0 s10;have Bi:=hid s10;have GI:=hid Gs;have wD:=hid (show w10.heap.size=w9z.heap.size by rw[<- ji];simp);have Xs:w2.heap.size<w3.heap.size:=lw3;clear ji Gs s10 c14 c15 c16 c17 cz9 l9 l7 l6 lb1 xU lb3 lw3 n63;have Em:=hid Xs;generalize w3.heap.size=S at *
 obtain⟨Au,ha⟩:=eX (((w10.alloc (.map #[] 0)).alloc (.map #[] 0)).alloc (.map #[] 0))
 obtain⟨z1,z2,z3,ry⟩:=nC ha;have HZ1:=hi2 z1 (aI z2 z3);have s11:=ry.heap Bi id;have k14:=G0 s11 14;have k15:=G0 s11 15;have k16:=G0 s11 16;simp at k14 k15 k16;have cz11:∀ o,Au.frozen? ⟨S,o,none⟩=false:=fun o=>X2 s11 o
 have rR:=hid s11;have RM:=hid ry;clear z1 z2 z3 s11 ry d14 d15 d16 Tk;go_wp2
 go_ret2;have hS:=rR.o;have s12:=hsc _ S 16 (.map (some (w10.heap.size+2))) (hsc _ S 15 (.map (some (w10.heap.size+1))) (hsc _ S 14 (.map (some w10.heap.size)) hS));have nj:Fr (fun b=>b=S) Au (((Au.setCell (aA S 14) (.map (some w10.heap.size))).setCell (aA S 15) (.map (some (w10.heap.size+1)))).setCell (aA S 16) (.map (some (w10.heap.size+2)))):=
  (((Fr.refl (fun b=>b=S) _).setCell (a:=⟨S,14,none⟩) (fun _=>rfl) _).setCell (a:=⟨S,15,none⟩) (fun _=>rfl) _).setCell (a:=⟨S,16,none⟩) (fun _=>rfl) _
 show Xj base d bf bq _ gen D w _ (((Au.setCell (aA S 14) (.map (some w10.heap.size))).setCell (aA S 15) (.map (some (w10.heap.size+1)))).setCell (aA S 16) (.map (some (w10.heap.size+2))));generalize (((Au.setCell (aA S 14) (.map (some w10.heap.size))).setCell (aA S 15) (.map (some (w10.heap.size+1)))).setCell (aA S 16) (.map (some (w10.heap.size+2))))=W at *
 obtain⟨z1,z2,z3⟩:=HZ1.o;have Y8:=Em.o;have hl6:=Nl.o;have Vq:=AZ.o;have nV:=FF.size;have hsz:=wD.o;have vy:=HM.xW;have cY:=HN.o;obtain⟨dl1,dl2,dl3⟩:=H.xW;have dne:=H.ne;have dge:=H.ge;have Zu:Fr (fun b=>b=S) w9z W:=(GI.trans RM nE).trans nj nI;have Rr:Fr (fun b=>b=S) w7 W:=(ZC.1.trans ZC.2 nE).trans Zu nI;have ex:Mz ⟨D.C0,D.size,c,dd,f,dp,mn,s⟩ gen D=⟨⟨D.C0,D.size,c,dd,f,dp,mn,s⟩,yb,pn,D.size-19,gen+1,0,fun _=>false,fun _=>false,fun _=>false,fun _=>false,fun _=>none,mn,D⟩:=by
  simp[Mz,HY.o]
 have e11:((D.size:Int)-19)=((D.size-19:Nat):Int):=oM
 refine⟨⟨base,S,d,bf,bq,bs,bw,w10.heap.size,w10.heap.size+1,w10.heap.size+2,w8.heap.size+2,w8.heap.size,w8.heap.size+1⟩,⟨rfl,rfl,rfl,rfl⟩,rfl,?_,?_⟩
 .rw[ex];refine⟨?_,(H.fr G7 id id id fun _ _ _ _ _ h=>h).fr Rr oM oM oM ?_,RB.fr Rr oM oM,kf.made (nj.heap z1 (show ¬ w10.heap.size=S by omega)),kf.made (nj.heap z2 (show ¬ w10.heap.size+1=S by omega)),kf.made (nj.heap z3 (show ¬ w10.heap.size+1+1=S by omega)),HM.fr Zu oM oM oM,(fun k p hp=>by cases hp),?_,?_,?_,?_⟩
  .simpa[e11] using s12
  .intro g c' t ht hg e;rw[e,rS] at hg;cases hg;rcases ht with h|h|h <;> cases h
  .simp only[P0.maps,List.nodup_cons,d9,not_or,List.not_mem_nil,not_false_eq_true,Mp,and_true];omega
  .simp only;omega
  .have:=HQ.o;simp only at *
   omega
  .exact⟨(fun k hk=>by cases hk),(fun k hk=>by cases hk),(fun k hk=>by cases hk)⟩
 .exact G7.trans Rr fun b hb h=>oM
end SF
end
section
open Go.Proofs Go.RowKit Go.Maps Go.Sort Go.Shelf Go.Sg
def rW (m:Nat):AnyZI.SortsIn prog an Fence.wide m:=
 ⟨fun blk off cap ss W hH Cw hsz=>callsIn_wide.2 (AnyM.slices_Sort_int ek blk off cap ss W hH Cw hsz),
  fun p cap W=>callsIn_wide.2 (AnyM.slices_Sort_int_none ek p cap W)⟩
def RowOf (f:Int->Bool)(L:List Int):Prop:=(∀ k,k ∈ L↔f k=true)/\L.Pairwise (· < ·)
def YE {w:w9}{b:Nat}{f:Int->Bool}{n:Nat}(h:kf w b f)(hn:n<=65536)(hf:∀ k,f k=true->0<=k/\k<n) :
  cP 97 #[.map (some b)] w fun e w'=>∃ v L,e = rT v/\Ints w' v L/\RowOf f L/\Fq w w':=by
 obtain⟨l,ck,hm,hs⟩:=h.ex;have hl:=hs.len hf;have A0:=pQ0 (H:=Unit) (P:=prog) (K:=3) (E:=4) underlying3 underlying4 hm hs (fun k hk=>WalkArith.wf_i64 (by have:=hf k hk;omega)) (by simp[maxLen];omega);refine (callsIn_wide (n:=6)).1 ?_;have J6:=A0.lt;have gB:SeqGives Fence.wide 2 prog 161 #[pO w] encZ (fun ss=>ss.Perm (intKeys (gC (H:=Unit) l))) (Maps.size (gC (H:=Unit) l)) (w.alloc (.cells #[.map (some b)] 153)):=
  AnyZI.keys_gives (ρ:=dq) { nz with } Fence.wide _ trivial rfl oM w.heap.size b l.length (gC (H:=Unit) l) _ sP sP (by
   obtain⟨es,clock,hb,Ft,hs,hD⟩:=A0;exact⟨es,clock,(Below.heap_alloc _ _ b J6).trans hb,Ft,hs,hD⟩)
 have cK:∀ mb W,CallsIn Fence.wide 5 prog 99 #[.map mb] W fun e w'=>e = rT (.func (.func 161) #[] #[pO (aP W.heap.size 0)])/\w'=W.alloc (.cells #[.map mb] 153):=fun mb W=>AnyZI.keys_in nz Fence.wide 5 trivial rfl mb W
 have cS:=AnyZI.sorted_in oV Fence.wide 5 trivial trivial trivial trivial rfl oM (rW _) (enters_of func141 kF rfl) 161 #[pO w] trivial (enters_of func161 kF rfl) _ _ (by rw[mV0];simp[maxLen];omega) (by rw[mV0];omega) _ gB;change CallsIn _ _ prog 98 _ _ _ at cS;have hfK:Fence.wide.fn 99:=trivial;have hfS:Fence.wide.fn 98:=trivial;have HS:=hid hs;clear A0 J6 hm gB hs;refine callsIn_of_wp func97 rfl trivial ?_ rfl;simp only[ntmps97,zA,lC,cJ,Nat.reduceAdd,Nat.reduceSub,dV,dW,dZ,dX,C7,ak];gi_wp2_with (first
  | (gi_at_call 99;refine (cK _ _).mono ?_;rintro e w' ⟨rfl,rfl⟩)
  | (gi_at_call 98;refine cS.mono ?_;rintro e w' ⟨v,ss,rfl,hS,O9,Y4,hb⟩))
 go_ret;have hp:(ss.mergeSort fun x y=>decide (x<=y)).Perm (keys l):=(List.mergeSort_perm _ _).trans (hS.trans (uc0 l));refine⟨v,ss.mergeSort fun x y=>decide (x<=y),rfl,ig0 (base:=(w.alloc (.cells #[.map (some b)] 153)).heap.size) (e:=3) (by rw[List.length_mergeSort];exact O9),⟨fun k=>?_,?_⟩,(fR.alloc _).trans (Fr.of_below hb) nI⟩
 .rw[hp.mem_iff];have e:=HS.at_ k;cases hk:f k with
  | true =>
   rw[hk] at e;simp only[if_true] at e;constructor
   .intro _;rfl
   .intro _;refine Classical.byContradiction fun hc=>?_
    rw[(wN l k).2 hc] at e;cases e
  | false =>
   rw[hk] at e;simp only[jI,if_false] at e;constructor
   .intro hc;exact absurd hc ((wN l k).1 e)
   .intro hc;cases hc
 .have h1:(ss.mergeSort fun x y=>decide (x<=y)).Pairwise (fun a b=>decide (a<=b)=true):=List.pairwise_mergeSort (fun a b c h1 h2=>by simp at *;omega) (fun a b=>by simp;omega) ss;have h2:(ss.mergeSort fun x y=>decide (x<=y)).Nodup:=hp.symm.nodup HS.nd;refine (List.Pairwise.and h1 h2).imp ?_;rintro a c ⟨h3,h4⟩;simp at h3;omega
end
end Go.Proofs.YtgdhaaokolfdoaaGreatDoor
namespace Go.Sg.Bits
open Go.RowKit
def tu (t:Nat->Bool)(m:Nat):List Int:=((List.range m).filter t).map Int.ofNat
def BC0 (t:Nat->Bool)(m:Nat):(tu t m).length<=m:=by
 simp only[tu,Z8];exact nT (mY _ _) sP
def XU (t:Nat->Bool)(m:Nat):tu t (m+1)=if t m then tu t m++[(m:Int)] else tu t m:=by
 simp only[tu,Ah,qe,B9];cases h:t m <;> simp[h]
def XV (t:Nat->Bool)(a:Nat):∀ d,(∀ i,a<=i->i<a+d->t i=false)->tu t (a+d)=tu t a:=by
 intro d;induction d with
 | zero=>intro _;rfl
 | succ d ih =>
  intro h;rw[<- qg,XU,h (a+d) oM oM];simp only[jI,if_false];exact ih fun i h1 h2=>h i h1 oM
variable {a b:Nat}
def Av0 {t:Nat->Bool}(Cm:a<=b)(h:∀ i,a<=i->i<b->t i=false)(hb:t b=true):tu t (b+1)=tu t a++[(b:Int)]:=by
 obtain⟨d,rfl⟩:∃ d,b=a+d:=⟨b-a,oM⟩
 rw[XU,if_pos hb,XV t a d h]
def uM0 (t:Nat->Bool)(h:a<=b):tu t a <+: tu t b:=by
  induction b with
  | zero => obtain rfl : a = 0 := by omega
            exact Ai
  | succ b ih =>
    by_cases hk:a=b+1
    . subst hk;exact Ai
    . have:=ih oM;rw[XU];split
      . exact this.trans (List.prefix_append _ _)
      . exact this
end Go.Sg.Bits
namespace Go.Proofs.YtgdhaaokolfdoaaGreatDoor
open Tryz
section
open Go.RowKit Go.Sg Go.Sg.Bits Go.Shelf
attribute [local go_sem] Oper.semAt_some
def uO0 (a:Option Addr)(w:w9) :
  cP 162 #[pO a] w fun e w'=>e = rT (.func (.func 224) #[] #[pO w])/\w.alloc (.cells #[pO a] 152)=w':=by
 go_enter func162,ntmps162;go_wp2
 go_ret;exact⟨rfl,rfl⟩
abbrev MF (x:Int):Array Value:=#[iI x]
def mM0 {w:w9}{bs bw n hand bx:Nat}{ws:List Nat}(h:na w bs bw n hand ws)(hT:Tab w)(hx:w.cell? bx=some (pO bs)) :
  SeqStopsK Fence.wide 9 prog 224 #[pO bx] MF (fun W W'=>W'.heap[bw]?=W.heap[bw]?/\W'.heap[0]?=W.heap[0]?) (fun xs=>xs=tu (bit ws) (64*ws.length)) (fun pre=>pre <+: tu (bit ws) (64*ws.length)) (64*ws.length) w:=fun l J Jx W hW hJ _ hY h0=>by
 have hr:=h.room;have hl:=h.len;have hwf:=h.wf;have C6:=(hW.cell (p:=⟨bx,0,none⟩) (World.block_lt_of_cell? _ _ hx)).trans hx;have nU:=(hW.cell (p:=⟨bs,2,none⟩) (M0 h.s)).trans (G0 h.s 2);simp at nU;have hp:=(hW.block bw (M0 h.w_)).trans h.w_;have ht:Tab W:=hT.fr (Fr.of_below hW) (S:=fun _=>False) id;have HWF:=hid hwf;have A8:ws.length<=1024:=oM
 have HT:=hid ht;clear hx hW h hT hwf ht hl;refine callsIn_of_wp func224 rfl trivial ?_ rfl;simp only[ntmps224,zA,lC,cJ,Nat.reduceAdd,Nat.reduceSub,dV,dW,dZ,dX,C7,ak];gi_wp2
 gi_loopw [10] (fun i wr=>∃ k:Nat,k<=ws.length/\i = iI k/\J (tu (bit ws) (64*k)) wr/\wr.heap[bw]?=some (.cells (sh ws) 29)/\wr.heap[0]?=W.heap[0]?) fun i _=>ws.length-(intOf i).toNat
 case atStart=>exact⟨0,C3 _,rfl,h0,hp,rfl⟩
 case round =>
  obtain⟨k,hk,rfl,gY,aD,ht0⟩:=hrel;by_cases hlt:k<ws.length
  .obtain⟨x,hx⟩:∃ x,ws[k]?=some x:=⟨_,gE hlt⟩
   have cw:wr.cell? (aA bw k)=some (iU x):=by rw[G0 aD];simp[sh,hx]
   have dS:=HWF.o x (gM hx);have dw:∀ m,m<64->bit ws (64*k+m)=x.testBit m:=fun m hm=>by
    rw[bit,show (64*k+m)/64=k by omega,show (64*k+m) % 64=m by omega];simp[List.getD,hx]
   have AL:=hid dw;have HX:=hid hx;have Et:=hid aD;have Hi:=hid ht0;clear dw hx aD ht0;have Fl:decide (k<ws.length)=true:=by simpa using hlt
   have Vm:decide ((k:Int)<(ws.length:Int))=true:=by simpa using hlt
   gi_wp2
   gi_loopw [4] (fun v wr=>∃ (ci low:Nat),v = iU ci/\ci<18446744073709551616/\low<=64/\(∀ m,m<64->ci.testBit m=(decide (low<=m) && x.testBit m))/\J (tu (bit ws) (64*k+low)) wr/\wr.heap[bw]?=some (.cells (sh ws) 29)/\wr.heap[0]?=W.heap[0]?) fun v _=>(intOf v).toNat
   case atStart=>exact⟨x,0,rfl,dS,oM,fun m hm=>by simp,gY,Et.o,Hi.o⟩
   case round =>
    obtain⟨ci,low,rfl,N8,Vu,hb,xd,KM,zZ⟩:=hrel;have oH:=hid hb;have GY:=hid KM;have SM:=hid zZ;have ZS:=hid xd;clear hb KM zZ xd;by_cases hz:ci=0
    .subst hz;gi_wp2
     go_roundw;case rel =>
      refine⟨k+1,oM,by simp,?_,GY.o,SM.o⟩;have e:tu (bit ws) (64*(k+1))=tu (bit ws) (64*k+low):=by
       have:=XV (bit ws) (64*k+low) (64-low) (fun i h1 h2=>by
        have hm:=oH.o (i-64*k) oM;have hb:=AL.o (i-64*k) oM;rw[show 64*k+(i-64*k)=i by omega] at hb;rw[hb];have hd:decide (low<=i-64*k)=true:=sO;rw[hd] at hm;simpa using hm.symm)
       rw[<- this];congr 1;omega
      rw[e];exact ZS
     case measure=>exact wM
    .obtain⟨gj,nU,ia⟩:=sf0 hz N8;have hd:=oW0 hz N8;have T6:=oG0 hz N8;have Ln:=hid fun W' (h:W'.heap[0]?=W.heap[0]?)=>YW ci N8 W' fun j hj=>(World.cell?_of_block (a:=⟨0,j,none⟩) h).trans (HT j hj);have hne:((ci:Int) != 0)=true:=sO;have T7:ci &&& (ci-1)<ci:=by
      rcases jL (ci &&& (ci-1)) ci with h|h
      .exact h
      .have h2:=Nat.and_le_right (n:=ci) (m:=ci-1);omega
     generalize Lib.ctz 64 ci=m0 at *
     have eF:low<=m0/\x.testBit m0=true:=by
      have:=oH.o m0 gj;rw[nU] at this;simpa using this.symm
     have ay:tu (bit ws) (64*k+m0+1)=tu (bit ws) (64*k+low)++[(k:Int)*64+m0]:=by
      have:=Av0 (t:=bit ws) (a:=64*k+low) (b:=64*k+m0) oM (fun i h1 h2=>by
       have hm:=oH.o (i-64*k) oM;have hb:=AL.o (i-64*k) oM;rw[show 64*k+(i-64*k)=i by omega] at hb;rw[hb];have hd:decide (low<=i-64*k)=true:=sO;rw[hd,ia _ oM] at hm;simpa using hm.symm) (by rw[AL m0 gj];exact eF.2)
      rw[this];congr 2
      have:((64*k+m0:Nat):Int)=(k:Int)*64+m0:=oM;exact this
     obtain⟨fn,tmps,assign,body,hy,hR⟩:=hY _ ((k:Int)*64+m0) wr ZS (by have:=BC0 (bit ws) (64*k+low);omega);dsimp only[MF] at hy;have HD:=hid hd;have HX0:=hid eF;have HNX:=hid ay;have HC:=hi2 nU (aI ia T6);have pM:=eF.1;clear hd eF ay nU ia T6;gi_wp2_with (gi_at_call 214;refine (callsIn_wide.2 (Ln.o _ SM.o)).mono ?_;rintro e w' ⟨rfl,rfl⟩)
     refine hR.mono ?_;rintro e W3 (⟨rfl,o6,Q2⟩|⟨rfl,N3⟩)
     .have rJ:=hid o6;have lY:=hid Q2;clear o6 Q2;gi_wp2
      rw[HD];go_roundw;case rel =>
       refine⟨ci &&& (ci-1),m0+1,rfl,oM,oM,fun m hm=>?_,?_,lY.1.trans GY.o,lY.2.trans SM.o⟩
       .obtain⟨nU,ia,T6⟩:=HC.o;rw[T6];by_cases he:m=m0
        .rw[if_pos he];simp;omega
        .rw[if_neg he,oH m hm];by_cases Km:m0+1<=m
         .have:low<=m:=oM;simp[Km,this]
         .have h3:=ia m oM;rw[oH m hm] at h3;simp[Km];simpa using h3
       .rw[show 64*k+(m0+1)=64*k+m0+1 by omega,HNX.o];exact rJ
      case measure=>exact wM
     .have fV:=hid N3;clear N3;gi_wp2
      refine bodyPost_ret (results_none rfl _ _ _) rfl ?_;exact⟨⟨_,rfl⟩,.inr ⟨_,(by have:=uM0 (bit ws) (a:=64*k+m0+1) (b:=64*ws.length) oM;rw[HNX] at this;exact this),fV.o⟩⟩
  .obtain rfl:k=ws.length:=by omega
   gi_wp2
   go_end0
   exact⟨⟨_,rfl⟩,.inl ⟨_,rfl,gY⟩⟩
end
section
open Go.RowKit Go.Sg Go.Sg.Bits Go.Shelf
attribute [local go_sem] Oper.semAt_some
def bJ:(prog.info? 3).map (fun i=>(i.zero,i.size,i.bytes))=some (some (iI 0),1,8):=by kernel_rfl
def AU0 (w:w9)(pre:List Int)(W:w9):Prop:=
 ∃ v,Boxed W w.heap.size 52 v/\W.ownsRow w 3 1 v pre.length (pre.map fun x=>iI x)/\True
variable {w:w9}{bs bw hand n:Nat}
def yY0 {ws:List Nat}(h:na w bs bw n hand ws)(hT:Tab w) :
  cP 100 #[pO bs] w fun e w'=>∃ v,e = rT v/\Ints w' v (tu (bit ws) (64*ws.length))/\Fq w w':=by
 obtain⟨i0,A3,J1,M1,O1⟩:=info_parts bJ;refine (callsIn_wide (n:=10)).1 ?_;have hr:=h.room;have hl:=h.len;have F:=hid (uO0 (some ⟨bs,0,none⟩) (w.alloc (.cells #[sL none 0 0] 52)));refine callsIn_of_wp_marks func100 rfl trivial ?_ rfl;simp only[ntmps100,zA,lC,cJ,Nat.reduceAdd,Nat.reduceSub,dV,dW,dZ,dX,C7,ak];gi_wp2_with (gi_at_call 162;refine (callsIn_wide.2 F.o).mono ?_;rintro e w' ⟨rfl,rfl⟩)
 obtain⟨W0,B4⟩:=eX ((w.alloc (.cells #[sL none 0 0] 52)).alloc (.cells #[pO bs] 152))
 have bu:Fq w W0:=by rw[<- B4];exact ((Fr.refl _ w).alloc _).alloc _
 have hsz:W0.heap.size=w.heap.size+1+1:=by rw[<- B4];simp
 have ay:W0.heap[w.heap.size]?=some (.cells #[sL none 0 0] 52):=by rw[<- B4];exact (fE _ _ _ sP).trans (han _ _)
 have U3:W0.cell? (aA (w+1) 0)=some (pO bs):=by rw[<- B4];simp[go_sem]
 have h0:=h.fr bu id id;have sH:=hT.fr bu id;have mK:=M0 h0.w_;have xA:=sH.lt;have hlT:=hT.lt;have zO:=M0 h.w_;simp only[B4];refine wpIn_rangeFunc_ownG (F:=Fence.wide) rfl oM (gf:=224) (lb:=#[pO (aP (w+1) 0)]) rfl trivial (enters_of func224 kF rfl)
  (mM0 h0 sH U3) (fun h k=>⟨k.1.trans h.1,k.2.trans h.2⟩) (fun W l o o' hl _ _ _=>⟨aC _ _ _ _ oM,aC _ _ _ _ oM⟩) (Below.refl _ _) (fun _=>rfl)
  (fun pre W=>AU0 w pre W/\Fq w W)
  (fun _ _ _=>False)
  (U6 ((holdsRow_own w.heap.size w.heap.size 52 3 1 (fun pre:List Int=>pre.length) (fun pre=>pre.map fun x=>iI x) fun _ _=>True).from _) (oY oM))
  (fun _ _ _ _ _ h=>h.elim)
  ⟨⟨_,ay,World.ownsRow_nil _ _ _ _,trivial⟩,bu⟩
  (fun x=>{ tmps:=#[pO bs,undef,sL none 0 0,pO w,iI x,pO bs,bO false,pO bs,.func (.func 224) #[] #[pO (aP (w+1) 0)],iI x,undef,undef,undef,undef,undef],defers:=[] }) ?assign ?body ?done ?stop
 case assign =>
  intro l x W K hK;gi_wp2
  exact hK
 case body =>
  rintro l pre x W ⟨⟨v,hv,A0,-⟩,hF⟩ hlen;have e0:=hv.cell;have e1:=hv.frozen;have l1:=hv.lt;have kG:=hF.size;have HV:=hid hv;have HO:=hid A0;clear hv A0 h0 ay U3;gi_wp2_with (gi_at_builtin;refine wpListIn_append_own _ rfl (.tmp 10) (.tmp 12) 52 rfl w.heap.size 3 i0 _ 1 8 underlying52 A3 J1 M1 O1 rfl dC _ _ _ rfl (HO.alloc _) ⟨W,0,none⟩ 1 1 [iI x] rfl rfl (cell_one_new _ _ _) (by simp[Value.oneCell']) ?c3 ?c4 ?c5 ?_)
  case c3=>simp[maxLen];omega
  case c4=>omega
  case c5=>simp;omega
  intro v1 w2 N0 R0 Y4;obtain⟨g,cap,rfl⟩:=ownsRow_succ N0;obtain⟨d1,d2,d3,d4,d5⟩:=HV.appended dC HO kG (nR _) N0 R0;have f0:=d1.cell;have f1:=d1.frozen;have D2:=hid d2;have D3:=hid d3;clear N0 R0 Y4 d1 d2 d3;gi_wp2
  refine⟨d4.from _,⟨d5.block _ oM,d5.block _ oM⟩,⟨_,D2.o,by simpa using D3.o,trivial⟩,?_⟩;exact⟨d5.os.trans hF.os,d5.tape.trans hF.tape,d5.output.trans hF.output,nT hF.size d5.size,fun b hb hn=>(d5.block b hb).trans (hF.block b hb hn)⟩
 case done =>
  rintro D ys W hD rfl ⟨⟨v,hv,A0,-⟩,hF⟩ hK;have e0:=hv.cell;have HO:=hid A0;clear A0 hv h0 ay U3;gi_wp2
  have hI:=ownsRow_putObj HO (.deferred none) hK rfl;refine wR (t:=2) rfl hK ⟨v,rfl,ig0 (base:=w.heap.size) (e:=3) (by simpa[Function.comp_def] using hI),hF.putObj (fun hh=>oM) _⟩
 case stop=>exact fun _ _ _ _ _ _ h=>h.elim
def By0 {t:Nat->Bool}(h:cT w bs bw n hand t)(hT:Tab w) :
  cP 100 #[pO bs] w fun e w'=>∃ v,e = rT v/\Ints w' v (tu t n)/\Fq w w':=by
 obtain⟨ws,h,ht⟩:=h;have e1:bit ws=t:=funext ht;have hl:=h.len;have e2:tu t (64*ws.length)=tu t n:=by
  have:=XV t n (64*ws.length-n) (fun i h1 h2=>by rw[<- ht];exact h.pad i h1);rw[<- this];congr 1;omega
 refine (yY0 h hT).mono fun e w' ⟨v,he,hI,hF⟩=>⟨v,he,?_,hF⟩
 rw[e1,e2] at hI;exact hI
end
section
open Go.RowKit Go.Sg Go.Sg.Bits Go.Sg.r4 CP
namespace SF
def XL (x:T3):T3:=
 { x with gen:=x.gen+1,taken:=fun i=>x.taken i && !x.dead i,mem:=fun k=>if x.dead k then none else x.mem k,fresh:=fun _=>false,dying:=fun _=>false,dead:=x.dying }
def P0.next (B:P0)(n:Nat):P0:={ B with de:=B.dy,dy:=n,fr:=n+1 }
def lL (x:T3)(f:Int->Bool):T3:={ x with taken:=fun i=>x.taken i && !f i,mem:=fun k=>if f k then none else x.mem k }
variable {w:w9}{B:P0}{x:T3}
def _root_.Go.Proofs.YtgdhaaokolfdoaaGreatDoor.X1.my {w':w9}(h:X1 w B x){k:Nat}(F:Fr (fun b=>b=k) w w')(h1:∀ r,¬ B.at_ r=k)(hk:∀ c t,w.heap[k]?≠some (.cells c t)):X1 w' B x:=by
 have h4:∀ (g:Nat) (c':Array Value) (t':TypeId),w.heap[g]?=some (.cells c' t')->¬ g=k:=fun g c' t' hg e=>by
  rw[e] at hg;exact hk _ _ hg
 refine⟨F.heap h.s (h1 .s),h.dev.fr F (h1 .d) (h1 .bf) (h1 .bq) fun g c' t' h5 hg=>h4 g c' t' hg,h.bits.fr F (h1 .bs) (h1 .bw),h.fr.fr F (h1 .fr),h.dy.fr F (h1 .dy),h.de.fr F (h1 .de),h.mem.fr F (h1 .bc) (h1 .bp) (h1 .bm),fun k p hp=>?_,h.ne,h.ge,h.rg,h.inr⟩;obtain⟨bs,hb,hl⟩:=h.load k p hp;exact⟨bs,hb.fr F fun b c hc=>h4 b c 5 hc,hl⟩
def Ov {H:Type}{P:Program}{K:TypeId}{R:Value->Option (DataW H × List MemPlace)}{S:Nat->Prop}{w w':w9}{b r n:Nat}{D:DataW H}{left:Lit->Bool}{cnt:Nat}(h:w.ranges P K R b r n D left cnt)(F:Fr S w w')(h1:¬ S b)(h2:¬ S r):w'.ranges P K R b r n D left cnt:=by
 obtain⟨es,clock,since,seen,c0,hb,Ft,hs,hD,hr,rest⟩:=h;exact⟨es,clock,since,seen,c0,F.heap hb h1,Ft,hs,hD,F.heap hr h2,rest⟩
def cS0 {H:Type}{P:Program}{e:TypeId}(h4:P.underlying e=some .bool){v:Value}{y:DataW H × List MemPlace}(h:plainElem (H:=H) P e v=some y):∃ c,v = .bool c/\y.1 = .lit (.bool c):=by
 unfold plainElem at h;rw[h4] at h;cases v with
 | bool c =>
  simp only[Option.some.injEq] at h;exact⟨c,rfl,by rw[<- h]⟩
 | _=>simp at h
def zG0 {H:Type}(l:List Z4)(k:Lit)(z:DataW H):(gC l).atKey k z=z\/(gC l).atKey k z=QR:=by
 rw[gC,DataW.atKey];split
 .rename_i p hp;right;have:=Xz hp;obtain⟨e,_,rfl⟩:=N4.1 ((Ie _).mem_iff.1 this);rfl
 .exact .inl rfl
def js0 {ops:Array Oper}{rest:List Oper}{o:Oper}{a:Act}{Q:Exit->Act->World->Prop}(hg:o.guard=none)(it:Operand)(hop:o.op=Op.next it false)(b r n:Nat)(l:List Z4)(left:Lit->Bool)(cnt:Nat)
  (hit:a.eval it = .pointer r) (h:w.ranges prog 3 (plainElem (H:=Unit) prog 4) b r n (gC l) left cnt)
  (IK:cnt=0->(∀ kl,left kl=false)->wpList prog ops Q rest (a.put o.dst (.tuple #[.bool false])) w)
  (IY:∀ (x:Int) (w':w9) (cnt':Nat),left (.int .i64 x)=true->w'.ranges prog 3 (plainElem (H:=Unit) prog 4) b r n (gC l) (fun z=>left z && !z.sameKey (.int .i64 x)) cnt'->cnt'<cnt ->
   w.grownBy w' (some r)->w'.heap.size=w.heap.size->(Instr.entry (.pointer r)).run prog w' = .ok (.tuple #[.int .i64 x,.bool true]) w'->wpList prog ops Q rest (a.put o.dst (.tuple #[.bool true,.int .i64 x,.bool true])) w') :
  wpList prog ops Q (o :: rest) a w:=by
 refine wpList_next_ranges w hg it hop 3 (Maps.int_keyed underlying3) (plainElem (H:=Unit) prog 4) (Value.int .i64) Value.bool (fun key kl X8=>by obtain⟨z,rfl,_⟩:=Maps.keyOf_int_inv underlying3 X8;exact⟨z,rfl⟩) (fun v y hv=>by obtain⟨c,rfl,_⟩:=cS0 underlying4 hv;exact⟨c,rfl⟩) b r n _ left cnt hit h IK ?_;intro x c kl y w' cnt' X8 hlk hv G4 C8 hlt dM hsz hen;obtain⟨x',ex,rfl,hwx⟩:=Maps.keyOf_int_inv underlying3 X8;cases ex;obtain⟨c',ec,hy⟩:=cS0 underlying4 hv;cases ec;have hc:c=true:=by
  have h1:=G4 .nil;rw[hy] at h1;rcases zG0 (H:=Unit) l (.int .i64 x) .nil with h2|h2
  .rw[h2] at h1;cases h1
  .rw[h2] at h1;simp[QR] at h1;exact h1
 subst hc;exact IY x w' cnt' hlk C8 hlt dM hsz hen
def oq0 {H:Type}{P:Program}{K:TypeId}{R:Value->Option (DataW H × List MemPlace)}{w:w9}{b r n:Nat}{D:DataW H}{left:Lit->Bool}{cnt:Nat}(h:w.ranges P K R b r n D left cnt)(c:Array Value)(t:TypeId):w.heap[r]?≠some (.cells c t):=by
 obtain⟨es,clock,since,seen,c0,hb,Ft,hs,hD,hr,rest⟩:=h;rw[hr];simp
def sg0 (h:X1 w B x)(hd:∀ k,x.dead k=true->x.taken k.toNat=true)(hg:x.gen<2199023255552) :
  cP 37 #[B.ptr] w fun e w'=>∃ n,e = rT (.tuple #[])/\X1 w' (P0.next B n) (XL x)/\D0 B w w'/\w.heap.size<=n:=by
 have c16:=h.sc.c16;have ls:=h.sc.lt;obtain⟨ld,cd,jB,ev⟩:=h.de.ex;have A0:=pQ0 (H:=Unit) (P:=prog) (K:=3) (E:=4) underlying3 underlying4 jB ev (fun k hk=>by
  have:=h.inr.2.2 k hk;have:=h.bits.room;exact WalkArith.wf_i64 oM) (by
  have:=ev.len h.inr.2.2;have:=h.bits.room;simp[maxLen];omega)
 have HS:=hid ev;have H:=hid h;have HO:=hid A0;have HM:=hid jB;clear ev A0 jB h;go_enter func37,ntmps37;go_wp2_with (first|(at_range;refine wpList_range_own _ rfl _ 153 rfl 3 4 (Maps.int_keyed underlying3) underlying153 _ B.de ld.length (gC ld) rfl HO.o ?_;intro w0 KW vm eD))
 go_frame
 have hlt:∀ r,B.at_ r<w.heap.size:=fun r=>(H.heaps r).2.2.1
 have Eo:=hid hlt;have HD:=hid hd;have qo:Fq w w0:=⟨vm.os,vm.tape,vm.output,vm.size,fun b hb _=>vm.block b hb sP⟩;have iM:X1 w0 B (lL x fun k=>x.dead k && !(Maps.has (gC (H:=Unit) ld) (.int .i64 k))):=by
  have e:lL x (fun k=>x.dead k && !(Maps.has (gC (H:=Unit) ld) (.int .i64 k)))=x:=by
   have e1:∀ k,(x.dead k && !(Maps.has (gC (H:=Unit) ld) (.int .i64 k)))=false:=fun k=>by
    rw[pR0];cases hk:x.dead k with
    | false=>rfl
    | true =>
     have:k ∈ keys ld:=by
      refine Classical.byContradiction fun hn=>?_
      have:=(wN ld k).2 hn;rw[HS.at_,hk] at this;simp at this
     simp[this]
   simp[lL,e1]
  rw[e];exact H.J0 qo
 have RK:=hid qo;have yL:=hid iM;have Bf:=hid KW;clear qo iM KW vm hlt hd c16;go_loopw [2] (fun _ wr=>∃ (left:Lit->Bool) (cnt:Nat),wr.ranges prog 3 (plainElem (H:=Unit) prog 4) B.de w.heap.size ld.length (gC ld) left cnt/\(∀ k,left (.int .i64 k)=true->x.dead k=true) /\
  X1 wr B (lL x fun k=>x.dead k && !left (.int .i64 k))/\eI B [.bs,.bw,.bp,.bm] w wr) fun _ wr=>wr.rangeLeft B.de w.heap.size
 case atStart =>
  refine⟨_,_,Bf.o,fun k hk=>?_,yL.o,RK.mono nE⟩;rw[pR0] at hk;have A5:k ∈ keys ld:=by simpa using hk
  have:Sg.look ld k≠none:=fun e=>(wN ld k).1 e A5
  rw[HS.at_] at this;cases hx:x.dead k with
  | true=>rfl
  | false=>rw[hx] at this;simp at this
 case round =>
  obtain⟨left,cnt,C8,hlf,hS,hF⟩:=hrel;have SA:=hid C8;have ZW:=hid hlf;have Nu:=hid hS;have gL:=hid hF;clear C8 hlf hS hF;go_wp2_with (at_next;refine js0 rfl _ rfl B.de w.heap.size ld.length ld left cnt rfl SA.o ?_ ?_)
  .intro mM xA;have zC:X1 wr B (lL x x.dead):=by
    have e:(fun k=>x.dead k && !left (.int .i64 k))=x.dead:=(by funext k;rw[xA];simp);have:=Nu.o;rw[e] at this;exact this
   have SI:=hid zC;have c15:=zC.sc.c15;have c12:wr.cell? (aA B.s 12)=some (.int .i64 x.gen):=zC.sc.c12;have c14:=zC.sc.c14;have c16:=zC.sc.c16;have cz:=zC.sc.z;have lsr:=zC.sc.lt;have vA:=fun (t:TypeId) (W:w9)=>run_makeMap (P:=prog) t W
   clear mM xA zC;go_wp2
   go_end0
   have HF:=gL.o;have hs:=SI.s;obtain⟨W,hW⟩:=eX (((((wr.setCell (aA B.s 16) (.map (some B.dy))).setCell (aA B.s 15) (.map (some wr.heap.size))).setCell (aA B.s 14) (.map (some (wr.heap.size+1)))).setCell (aA B.s 12) (.int .i64 (x.gen+1))))
   have Uo:W.heap.size=wr.heap.size:=by rw[<- hW];simp
   have FW:eI B [.s] wr W:=by
    rw[<- hW];exact (((fR.setCell (a:=⟨B.s,16,none⟩) (fun _=>⟨.s,by simp,rfl⟩) _).setCell (a:=⟨B.s,15,none⟩) (fun _=>⟨.s,by simp,rfl⟩) _).setCell (a:=⟨B.s,14,none⟩) (fun _=>⟨.s,by simp,rfl⟩) _).setCell (a:=⟨B.s,12,none⟩) (fun _=>⟨.s,by simp,rfl⟩) _
   have kG:=hsc _ B.s 12 (.int .i64 (x.gen+1)) (hsc _ B.s 14 (.map (some (wr.heap.size+1))) (hsc _ B.s 15 (.map (some wr.heap.size)) (hsc _ B.s 16 (.map (some B.dy)) hs)));rw[hW] at kG;simp only[hW];have F2:Fq W ((W.alloc (.map #[] 0)).alloc (.map #[] 0)):=(fR.alloc _).alloc _;have vw:((W.alloc (.map #[] 0)).alloc (.map #[] 0)).heap[wr.heap.size]?=some (.map #[] 0):=by
    rw[fE _ _ _ sO,<- Uo];exact han _ _
   have ew:((W.alloc (.map #[] 0)).alloc (.map #[] 0)).heap[wr.heap.size+1]?=some (.map #[] 0):=by
    have:=han (W.alloc (.map #[] 0)) (.map #[] 0);rw[World.size_alloc,Uo] at this;exact this
   have FA:eI B [.s] wr ((W.alloc (.map #[] 0)).alloc (.map #[] 0)):=Fr.alloc (Fr.alloc FW _) _;have S:=SI.stays FA;have zO:=gL.size;have hn:=H.ne;have hlt:∀ r,B.at_ r<wr.heap.size:=fun r=>E4 (Eo r) zO
   refine⟨wr.heap.size,trivial,⟨?_,S.dev dC dC dC,S.bits dC dC,kf.made ew,kf.made vw,S.dy dC,S.mem dC dC dC,S.load,?_,?_,?_,?_⟩,?_,zO⟩
   .have:=F2.heap kG id;simpa[XL,P0.next,lL] using this
   .simp only[P0.maps,List.nodup_cons,d9,not_or,List.not_mem_nil,not_false_eq_true,Mp,and_true] at hn ⊢;have e1:=hlt .bf;have e2:=hlt .bq;have e3:=hlt .dy;have e4:=hlt .bm;simp only[P0.at_] at e1 e2 e3 e4;obtain⟨⟨a1,a2,a3,a4,a5⟩,⟨b1,b2,b3,b4⟩,⟨c1,c2,c3⟩,⟨d1,d2⟩,e1'⟩:=hn;refine⟨⟨a1,?_,?_,a3,a5⟩,⟨?_,?_,b2,b4⟩,⟨?_,?_,?_⟩,⟨?_,?_⟩,d2⟩ <;> simp only[P0.next] <;> omega
   .have:=H.ge;have:=H.dev.ge;have:=hlt .d;simp only[P0.at_,P0.next] at *
    omega
   .have:=H.rg;simp only[XL] at *
    omega
   .exact⟨(fun k hk=>by cases hk),(fun k hk=>by cases hk),H.inr.2.1⟩
   .exact ((H.T1 HF).trans (SI.T1 FA))
  .intro x' w1 cnt1 hlk KX hlt1 cD E3 hen;have xt:=ZW.o _ hlk;obtain⟨eF,hx1⟩:=H.inr.2.2 _ xt;obtain⟨n,rfl⟩:=iZ eF;have F1:Fr (fun b=>b=w.heap.size) wr w1:=⟨cD.os,cD.tape,cD.output,cD.size,fun b hb hn=>cD.block b hb fun e=>hn (by cases e;rfl)⟩;have du:=Nu.my F1 (fun r=>Nat.ne_of_lt (Eo r)) (oq0 SA.o);have g13:=du.sc.c13;have ht:(lL x fun k=>x.dead k && !left (.int .i64 k)).taken n=true:=by
    have:=HD.o _ xt;simp[lL,hlk] at this ⊢;exact this
   have HC:=hid (nl0 du.bits n (by simpa[lL] using hx1) ht);have jR:=hid du;have E1:=hid F1;have Hb:=hid KX;have HLK:=hid hlk;have HDX:=hid xt;clear du F1 KX cD E3 hlk ht xt;go_wp2_with fail
   refine HC.mono ?_;rintro e w2 ⟨rfl,BV,F2⟩;have Rt:eI B [.bw] w1 w2:=F2.mono (fun b _ h=>⟨.bw,by simp,h⟩);have S2:=jR.stays Rt;have s2:=S2.s dC;have g17:w2.cell? (aA B.s 17)=some (.pointer (aP B.bc 0)):=by simpa using G0 s2 17
   have dE:=hid (qe0 (S2.mem dC dC dC) n);have bD:=hid BV;have Y0:=hid F2;have RS:=hid Rt;clear BV F2 Rt S2 s2;go_wp2_with fail
   refine dE.mono ?_;rintro e w3 ⟨rfl,IX,F3⟩;have HM3:=hid IX;have N5:=hid F3;clear IX F3;go_wp2
   go_roundw;case rel =>
    have DS:∀ r,B.at_ r≠w.heap.size:=fun r=>Nat.ne_of_lt (Eo r)
    have R2:=Ov Hb Y0 (fun e=>H.qh (r:=.de) (r':=.bw) dC e) fun e=>DS .bw e.symm;have R3:=Ov R2 N5 (fun e=>by
     rcases e with e|e
     .exact H.qh (r:=.de) (r':=.bp) dC e
     .exact H.qh (r:=.de) (r':=.bm) dC e) (fun e=>by
     rcases e with e|e
     .exact DS .bp e.symm
     .exact DS .bm e.symm)
    have J7:eI B [.bs,.bw,.bp,.bm] w1 w3:=(RS.mono fun b _ ⟨r,hr,e⟩=>⟨r,by simp at hr ⊢;simp[hr],e⟩).trans N5 (fun b _ h=>by
     rcases h with h|h
     .exact⟨.bp,by simp,h⟩
     .exact⟨.bm,by simp,h⟩)
    refine⟨_,_,R3,fun k hk=>ZW k (by simp at hk;exact hk.1),?_,?_⟩
    .have S3:=jR.stays J7;have eb:cT w3 B.bs B.bw x.pages x.hand (upd (lL x fun k=>x.dead k && !left (.int .i64 k)).taken n false):=bD.fr N5 (fun h=>by
      rcases h with h|h
      .exact H.qh (r:=.bs) (r':=.bp) dC h
      .exact H.qh (r:=.bs) (r':=.bm) dC h) (fun h=>by
      rcases h with h|h
      .exact H.qh (r:=.bw) (r':=.bp) dC h
      .exact H.qh (r:=.bw) (r':=.bm) dC h)
     have ef:∀ k:Int,(x.dead k && !(left (.int .i64 k) && !(Lit.int .i64 k).sameKey (.int .i64 n)))=if k=n then true else (x.dead k && !left (.int .i64 k)):=fun k=>by
      by_cases hk:k=n
      .subst hk;simp[Lit.sameKey,HDX.o]
      .simp[Lit.sameKey,hk]
     have e1:upd (lL x fun k=>x.dead k && !left (.int .i64 k)).taken n false=(lL x fun k=>x.dead k && !(left (.int .i64 k) && !(Lit.int .i64 k).sameKey (.int .i64 n))).taken:=by
      funext i
      simp only[upd,lL,ef];by_cases hi:i=n
      .subst hi;simp
      .have:¬ (i:Int)=n:=oM;simp[hi,this]
     have e2:vP (lL x fun k=>x.dead k && !left (.int .i64 k)).mem n none=(lL x fun k=>x.dead k && !(left (.int .i64 k) && !(Lit.int .i64 k).sameKey (.int .i64 n))).mem:=by
      funext k
      simp only[vP,lL,ef];by_cases hk:k=n
      .subst hk;simp
      .simp[hk]
     refine⟨S3.s dC,S3.dev dC dC dC,by rw[<- e1];exact eb,S3.fr dC,S3.dy dC,S3.de dC,by rw[<- e2];exact HM3.o,fun k p hp=>?_,H.ne,H.ge,H.rg,H.inr⟩;rw[<- e2] at hp;simp only[vP] at hp;split at hp
     .cases hp
     .exact S3.load k p hp
    .exact (gL.trans E1 fun b hb h=>oM).trans J7 fun b _ h=>h
   case measure =>
    have DS:∀ r,B.at_ r≠w.heap.size:=fun r=>Nat.ne_of_lt (Eo r)
    have R2:=Ov Hb Y0 (fun e=>H.qh (r:=.de) (r':=.bw) dC e) fun e=>DS .bw e.symm;have R3:=Ov R2 N5 (fun e=>by
     rcases e with e|e
     .exact H.qh (r:=.de) (r':=.bp) dC e
     .exact H.qh (r:=.de) (r':=.bm) dC e) (fun e=>by
     rcases e with e|e
     .exact DS .bp e.symm
     .exact DS .bm e.symm)
    rw[R3.left_eq,SA.left_eq];omega
end SF
