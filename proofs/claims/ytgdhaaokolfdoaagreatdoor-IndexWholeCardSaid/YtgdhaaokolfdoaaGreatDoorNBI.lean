/- A pack of texts. Conditions: those that each names. -/
import Derived.Test.YtgdhaaokolfdoaaGreatDoorNBH
set_option maxHeartbeats 16000000
set_option maxRecDepth 100000
set_option linter.all false
namespace Go.Proofs.YtgdhaaokolfdoaaGreatDoor
open Tryz
section
open Go.RowKit Go.Sg CP SF
variable {base s:Nat}{w:w9}
def Yp {α:Type}{f:α->List Value}(hf:∀ x,(f x).length=s)(l:List α):(l.flatMap f).length=l.length*s:=by
 induction l with
 | nil=>simp
 | cons x l ih=>rw[dj,lA,ih,hf,lC,nb,Nat.add_comm]
def jt {α:Type}{f:α->List Value}(hf:∀ x,(f x).length=s)(l:List α):∀ (k j:Nat) (x:α),l[k]?=some x->j<s->(l.flatMap f)[k*s+j]?=(f x)[j]?:=by
 induction l with
 | nil=>intro k j x h;simp at h
 | cons y l ih =>
  intro k j x h hj;cases k with
  | zero =>
   simp at h;subst h;rw[dj,uk,o8,jn (by rw[hf];exact hj)]
  | succ k =>
   rw[gS] at h;rw[dj,kN (by rw[hf,nb];omega),hf,show (k+1)*s+j-s=k*s+j by rw[nb];omega];exact ih k j x h hj
def zx0 {α:Type}{f:α->List Value}(hf:∀ x,(f x).length=s)(l:List α):∀ k:Nat,(l.flatMap f).take (k*s)=(l.take k).flatMap f:=by
 induction l with
 | nil=>intro k;simp
 | cons x l ih =>
  intro k;cases k with
  | zero=>simp
  | succ k=>rw[dj,Qk,dj,<- ih k,List.take_append,hf,tL (by rw[hf,nb];omega),show (k+1)*s-s=k*s by rw[nb];omega]
def zy0 {α:Type}{f:α->List Value}(hf:∀ x,(f x).length=s)(l:List α):∀ k:Nat,(l.flatMap f).drop (k*s)=(l.drop k).flatMap f:=by
 induction l with
 | nil=>intro k;simp
 | cons x l ih =>
  intro k;cases k with
  | zero=>simp
  | succ k=>rw[dj,List.drop_succ_cons,<- ih k,List.drop_append,hf,XK (by rw[hf,nb];omega),show (k+1)*s-s=k*s by rw[nb];omega,C7]
structure Rb where
 d:Nat
 p:Nat
 a:Option Addr
 c:Nat
 es:List Bt
abbrev Rb.v (x:Rb):Value:=sL x.a x.es.length x.c
def yp (x:Rb):List Value:=[iI x.d,iI x.p,x.v]
def ze (x:Rb):(yp x).length=3:=rfl
def Rb.key (x:Rb):Nat × Nat × List Bt:=(x.d,x.p,x.es)
abbrev Lb:=List (Nat × Nat × List Bt)
def OwnB (w:w9)(base:Nat)(v:Value)(l:Lb):Prop:=∃ xs:List Rb,xs.map Rb.key=l/\w.ownsRow base 220 3 v xs.length (xs.flatMap yp)/\∀ x ∈ xs,t8 w 0 x.v x.es
abbrev ai (g most slots:Int)(v:Value)(sp:Int):Value:=.agg #[iI g,iI most,iI slots,v,iI sp]
variable {l:Lb}
def OwnB.fr {w':w9}{v:Value}(h:OwnB w base v l)(F:Fq w w'):OwnB w' base v l:=by
 obtain⟨xs,h1,h2,h3⟩:=h;exact⟨xs,h1,oN h2 F,fun x hx=>oN (h3 x hx) F⟩
def LL {c n:Nat}{a:Option Addr}{xs:List Rb}(h:w.ownsRow base 220 3 (sL a n c) n (xs.flatMap yp)){k:Nat}{x:Rb}(hx:xs[k]?=some x) :
  ∃ g,a=some ⟨g,0,none⟩/\g<w.heap.size/\w.cell? (aA g (k*3))=some (iI x.d)/\w.cell? (aA g (k*3+1))=some (iI x.p)/\w.cell? (aA g (k*3+2))=some x.v:=by
 obtain⟨g,e,hg,h0⟩:=d8 h (jt ze xs k 0 x hx dC);obtain⟨g1,e1,_,h1⟩:=d8 h (jt ze xs k 1 x hx dC);obtain⟨g2,e2,_,h2⟩:=d8 h (jt ze xs k 2 x hx dC);rw[e] at e1 e2;cases e1;cases e2;exact⟨g,e,hg,h0,h1,h2⟩
def Hw:(prog.info? 220).map (fun i=>(i.zero,i.size,i.bytes))=some (some (.agg #[iI 0,iI 0,sL none 0 0]),3,40):=by kernel_rfl
def R9 (h:Nat)(b:Nat × Nat × List Bt):Bool:=decide (X0 h b.1=b.2.1)
def Yv {v:Value}(hB:OwnB w 0 v l)(hl:l.length<=60000)(g most slots sp:Int)(h:Nat)(hh:h<18446744073709551616)(hd:∀ b ∈ l,b.1<=20){i:Nat}(hi:l.findIdx? (R9 h)=some i) :
  cP 205 #[ai g most slots v sp,iU h] w (MT i w):=by
 obtain⟨xs,rfl,hR,-⟩:=hB;obtain⟨va,vc,rfl,-,-,-,-⟩:=A2 hR;obtain⟨n,hn⟩:=eX xs.length
 obtain⟨w1,I0⟩:=eX (w.alloc (.cells #[iI g,iI most,iI slots,sL va n vc,iI sp] 137))
 obtain⟨z,hz⟩:=eX w.heap.size
 have F1:=fA I0
 have b0:w1.heap[z]?=some (.cells #[iI g,iI most,iI slots,sL va n vc,iI sp] 137):=by rw[<- I0,<- hz];exact han _ _
 have Ci:=oN hR F1;have Cg:i<n/\(∀ x,xs[i]?=some x->X0 h x.d=x.p)/\∀ k x,k<i->xs[k]?=some x->X0 h x.d≠x.p:=by
  rw[ox] at hi;obtain⟨h1,h2,h3⟩:=hi;rw[Z8] at h1;refine⟨oM,fun x hx=>?_,fun k x hk hx=>?_⟩
  .obtain⟨_,e⟩:=gI.1 hx;simpa[R9,e,Rb.key] using h2
  .obtain⟨_,e⟩:=gI.1 hx;simpa[R9,e,Rb.key] using h3 k hk
 have hdd:∀ (k:Nat) (x:Rb),xs[k]?=some x->x.d<=20:=fun k x hx=>hd x.key (N4.2 ⟨x,gM hx,rfl⟩)
 rw[Z8,hn] at hl;rw[hn] at Ci ⊢;have oI:=hid fun V (F:Fq w1 V)=>cells5 (F.heap b0 id);have HR:=hid Ci;have HN:=hid hn;have HF:=hid F1;have HW:=hid I0;have HI:=hid Cg;have HD:=hid hdd;have HZ:=hid hz;have T4:=Cg.1;obtain⟨x0,x1,x2,x3,x4,xz,xl⟩:=oI.o _ fR;clear hR hn F1 I0 b0 Ci Cg hdd hd hi hz;go_enter func205,ntmps205;go_upto_region 1 with fail
 rw[HW];try simp only[HZ.o]
 clear x0 x1 x2 x3 x4 xz xl;go_wp2_with fail
 go_loopw [5] (fun iv wr=>∃ k:Nat,k<=i/\iv = iI k/\Fq w1 wr) fun iv _=>n-(intOf iv).toNat
 case atStart=>exact⟨0,C3 _,rfl,fR⟩
 case round =>
  obtain⟨k,hk,rfl,hF⟩:=hrel;have hd:decide ((k:Int)<(n:Int))=true:=by simp;omega
  have cF:(k:Int)<(n:Int):=oM
  have fL:wrap64 ((k:Int)+1)=((k+1:Nat):Int):=rY oM;obtain⟨x,hx⟩:∃ x,xs[k]?=some x:=⟨_,gE (by rw[HN.o];omega)⟩
  obtain⟨gb,rfl,hg,c0,c1,-⟩:=LL (oN HR.o hF) hx;have HX:=hid hx;have gL:=hid hF;have HP:=hid fun V=>uj0 h x.d hh (nT (HD k x HX.o) dC) V;have HC:=hid fun V (F:Fq wr V)=>aI (oI V (gL.trans F nI)) (aI ((F.cell (p:=⟨gb,k*3,none⟩) hg id).trans c0) (aI ((F.cell (p:=⟨gb,k*3+1,none⟩) hg id).trans c1) (E4 hg F.size)));obtain⟨⟨x0,x1,x2,x3,x4,xz,xl⟩,-⟩:=HC.o _ fR;have FD:=(Fr.refl (fun _=>False) wr).drew;clear hx hF c0 c1 hg;go_upto_region 4 with fail
  clear x0 x1 x2 x3 x4;refine wp_region_noPanic ?_;refine q8 (fun V=>Fq wr V) (.rd 0 (.rd 1 (.rd 2 (.rd 3 (.rd 4 (.rd 5 (.rd 6 (.rd 8 (.rd 9 (.rd 10 (.rd 11 (.rd 12 (.rd 13 (.op 7 (.rd 14 .done))))))))))))))) kF kF kF (fun _ _ _ _ _ h=>h) FD ?_;iterate 13
   refine oP ?_ ?_ ?_;rotate_left
   .intro V hV;obtain⟨⟨x0,x1,x2,x3,x4,xz,xl⟩,e0,e1,eg⟩:=HC.o V hV;go_simp;try with_reducible rfl
  refine rQ fun K hK=>?_
  (with_reducible refine (HP.o _).mono ?_)
  rintro _ V1 ⟨rfl,G1⟩;have F1:=FD.trans G1 nI;refine hK _ _ F1 ?_;clear hK K;refine oR ?_
  refine o5 ?_;refine NoPanic.normal ?_;try simp only[Act.put,sI,sZ,sS]
  have H1:=hid (gL.trans F1 nI);clear F1 G1 FD;rcases jL k i with hlt|cE
  .have gm:(((X0 h x.d:Nat):Int) == ((x.p:Nat):Int))=false:=by rw[BN];exact decide_eq_false (HI.2.2 k x hlt HX.o)
   go_wp2_with fail
   go_roundw;case rel=>exact⟨k+1,hlt,by go_num,H1.o⟩
   case measure=>exact wM
  .obtain rfl:k=i:=by omega
   have gm:(((X0 h x.d:Nat):Int) == ((x.p:Nat):Int))=true:=by rw[BN];exact decide_eq_true (HI.2.1 x HX.o)
   go_wp2_with fail
   go_ret;exact⟨rfl,HF.trans H1.o nI⟩
end
section
open Go.RowKit Go.Sg Go.Sg.Bits Go.Sg.r4 CP SF
def fo (l:List Rf):Nat->Bool:=fun k=>l.any fun r=>decide (r.1=(k:Int))
variable {l E0:List Rf}{r:Rf}{N g m:Nat}{w:w9}{a:Bool}{rp rs:Int}
def xp0 (h:r ∈ l):fo (l++[r])=fo l:=by
 funext k
 simp only[fo,List.any_append,List.any_cons,List.any_nil,Bool.or_false];by_cases e:r.1=(k:Int)
 .rw[decide_eq_true e,Bool.or_true,eq_comm,vK];exact⟨r,h,decide_eq_true e⟩
 .rw[decide_eq_false e,Bool.or_false]
def pI0 (l:List Rf)(hm:r.1=m):upd (fo l) m true=fo (l++[r]):=by
 funext k
 by_cases h:k=m
 .subst h;simp[upd,fo,hm]
 .have h':¬ (m:Int)=k:=by omega
  simp[upd,fo,hm,h,h']
def BD0 (h:∀ q ∈ l,q.1≠(m:Int)):fo l m=false:=by
 unfold fo;rw[DJ];exact fun q hq=>by simpa using h q hq
def DX (l:List Rf):Prop:=∀ (i:Nat) (r:Rf),l[i]?=some r->(∃ j,i=j+1/\l[j]?=some r)\/∀ (j:Nat) (q:Rf),j<i->l[j]?=some q->q.1≠r.1
def CT0 (B:P0)(y:Cs)(P:J2)(a:Bool)(N:Nat)(l:List Rf)(w:w9)(e:Ending)(w':w9):Prop:=
 e = rT (iI 0)/\D0 B w w'/\C1 w' B { y with taken:=fo l } P a N
variable {B:P0}{y:Cs}{P:J2}
def xj0 (h:C1 w B { y with taken:=fo [] } P a N){v:Value}{b0:Nat}(hR:aq w b0 v l)(hl:l.length<=1000)(hp:∀ r ∈ l,0<=r.1/\r.1<y.pages)(hrun:DX l) :
  cP 150 #[B.ptr,v] w (CT0 B y P a N l w):=by
 obtain⟨va,vc,rfl,-,-,-,-⟩:=A2 hR;obtain⟨n,hn⟩:=eX l.length
 have h0:0<w.heap.size:=by have:=h.base;have:=h.jr;omega
 rw[hn] at hl ⊢;have HR:=hid hR;have HN:=hid hn;have HP:=hid hp;have HU:=hid hrun;have HS:=hid h;clear hR hn hp hrun h;go_enter func150,ntmps150;go_wp2_with fail
 go_loopw [10] (fun iv wr=>∃ k:Nat,k<=n/\iv = iI k/\C1 wr B { y with taken:=fo (l.take k) } P a N/\D0 B w wr) fun iv _=>n-(intOf iv).toNat
 case atStart=>exact⟨0,C3 _,rfl,by rw[List.take_zero];exact HS.o,D0.refl _ _⟩
 case round =>
  obtain⟨k,hk,rfl,hS,hF⟩:=hrel;by_cases hlt:k<n
  .have hd:decide ((k:Int)<(n:Int))=true:=by simp;omega
   have cF:(k:Int)<(n:Int):=oM
   have fL:wrap64 ((k:Int)+1)=((k+1:Nat):Int):=rY oM;obtain⟨r,hr⟩:∃ r,l[k]?=some r:=⟨_,gE (by rw[HN.o];exact hlt)⟩
   have Pc:=BL HR.o dC hF;rw[HN] at Pc;have hcell:=fun (j:Nat) (q:Rf) (hq:l[j]?=some q)=>aI (d8 Pc (jt (f:=N7) (s:=2) (fun _=>rfl) l j 0 q hq dC)) (d8 Pc (jt (f:=N7) (s:=2) (fun _=>rfl) l j 1 q hq dC))
   obtain⟨⟨g,rfl,hg,c0⟩,g',e',-,c1⟩:=hcell k r hr;cases e';have c0:wr.cell? (aA g (k*2))=some (iI r.1):=c0;have c1:wr.cell? (aA g (k*2+1))=some (iI r.2):=c1;obtain⟨s,hs⟩:=eX wr.heap.size
   have eD:0<s:=by rw[<- hs];exact E4 h0 hF.size
   obtain⟨V3,T8⟩:=eX (wr.alloc (.cells #[iI r.1,iI r.2] 35))
   have b3:V3.heap[s]?=some (.cells #[iI r.1,iI r.2] 35):=by rw[<- T8,<- hs];exact han _ _
   have F3:=fA T8
   have jS:=hid (hS.J0 F3);have N5:=hid (D0.trans hF (D0.none F3));have HC:=hid (fun (j:Nat) (q:Rf) (hq:l[j]?=some q)=>aI ((F3.cell (p:=⟨g,j*2,none⟩) hg id).trans (by obtain⟨⟨g',e',-,c⟩,-⟩:=hcell j q hq;cases e';exact c)) ((F3.cell (p:=⟨g,j*2+1,none⟩) hg id).trans (by obtain⟨-,g',e',-,c⟩:=hcell j q hq;cases e';exact c)));have Bq:=hid T8;have SK:=hid hs;have HX:=hid hr;obtain⟨y0,y1,yz,yl⟩:=cells2 b3;have HY:=hi2 y0 (aI y1 (aI yz yl));have HG:=hi2 hg F3.size;clear hS hF Pc hcell T8 F3 b3 hs hr y0 y1 yz yl;go_upto_region 4 with fail
   rw[Bq];try simp only[SK.o]
   clear c0 c1 hg;obtain⟨y0,y1,yz,yl⟩:=HY.o;rcases HU.o k r HX.o with⟨j,rfl,hj⟩|hno
   .have kA:decide ((0:Int)<((j+1:Nat):Int))=true:=sP;have Vj:wrap64 (((j+1:Nat):Int)-1)=(j:Int):=(by simp only[wrap64];omega);have Fk:(j:Int)<(n:Int):=oM;obtain⟨a0,a1⟩:=HC.o j r hj;have fJ:g<V3:=E4 HG.1 HG.2;have hE:∀ W,(binOp .eql 35 (.agg #[iI r.1,iI r.2]) (.agg #[iI r.1,iI r.2])).run prog W = .ok (bO true) W:=fun W=>by rw[Qw];simp
    go_quiet (fail)
    go_wp2_with fail
    go_roundw;case rel=>exact⟨j+1+1,hlt,by go_num,by rw[ea,HX];show C1 _ B { y with taken:=fo (l.take (j+1)++[r]) } P a N;rw[xp0 (gM (i:=j) (by rw[gT,if_pos oM];exact hj))];exact jS.J0 (fR.drewN _),D0.trans N5.o (D0.none (fR.drewN _))⟩
    case measure=>exact wM
   .obtain⟨eB,fM⟩:=HP.o r (gM HX.o);obtain⟨m,hm⟩:=iZ eB;have yH:=hid (fun V (F:Fq V3 V)=>Bd0 (jS.J0 F) m r.2 (by show m<y.pages;omega) (BD0 (fun q hq=>by
     obtain⟨j,hj⟩:=ou.1 hq;rw[gT] at hj;split at hj
     .rw[<- hm];exact hno j q (by assumption) hj
     .cases hj)))
    have HM:=hid hm;rw[<- hm] at yH;clear hm;by_cases iX:k=0
    .subst iX;have kA:decide ((0:Int)<((0:Nat):Int))=false:=sP;clear hno;go_quiet (fail)
     go_wp2_with fail
     focus
      have H4:=hid ((Fr.refl (fun _=>False) V3).drewN nq)
      (with_reducible refine (yH.o _ H4.o).mono ?_)
      rintro _ V5 ⟨rfl,J5,F5⟩;have H5:=hi2 J5 (D0.trans N5.o (D0.trans (D0.none H4.o) F5));clear J5 F5;go_wp2_with fail
      go_roundw;case rel=>exact⟨0+1,hlt,by go_num,by rw[ea,HX];show C1 V5 B { y with taken:=fo (l.take (0)++[r]) } P a N;rw[<- pI0 _ HM.o];exact H5.1,H5.2⟩
      case measure=>exact wM
    .obtain⟨j,rfl⟩:∃ j,k=j+1:=⟨k-1,oM⟩
     have kA:decide ((0:Int)<((j+1:Nat):Int))=true:=sP;have Vj:wrap64 (((j+1:Nat):Int)-1)=(j:Int):=(by simp only[wrap64];omega);have Fk:(j:Int)<(n:Int):=oM;obtain⟨q,hq⟩:∃ q,l[j]?=some q:=⟨_,gE (by rw[HN.o];omega)⟩
     obtain⟨a0,a1⟩:=HC.o j q hq;have fJ:g<V3:=E4 HG.1 HG.2;have hqr:=hno j q oM hq;have hE:∀ W,(binOp .eql 35 (.agg #[iI q.1,iI q.2]) (.agg #[iI r.1,iI r.2])).run prog W = .ok (bO false) W:=fun W=>by rw[Qw,decide_eq_false hqr];rfl
     clear hno hqr hq;go_quiet (fail)
     go_wp2_with fail
     focus
      have H4:=hid ((Fr.refl (fun _=>False) V3).drewN nq)
      (with_reducible refine (yH.o _ H4.o).mono ?_)
      rintro _ V5 ⟨rfl,J5,F5⟩;have H5:=hi2 J5 (D0.trans N5.o (D0.trans (D0.none H4.o) F5));clear J5 F5;go_wp2_with fail
      go_roundw;case rel=>exact⟨j+1+1,hlt,by go_num,by rw[ea,HX];show C1 V5 B { y with taken:=fo (l.take (j+1)++[r]) } P a N;rw[<- pI0 _ HM.o];exact H5.1,H5.2⟩
      case measure=>exact wM
  .obtain rfl:k=n:=by omega
   have hd:decide ((k:Int)<(k:Int))=false:=by simp
   have HE:=hi2 hF (show C1 wr B { y with taken:=fo l } P a N by rw[tL (by rw[HN];exact nR _)] at hS;exact hS);clear hS hF;go_wp2_with fail
   go_ret;exact⟨rfl,HE.1,HE.2⟩
structure Gm (P:D4)(x:P1)(t:Tr):Prop where
 ex:∃ (y:Cs) (E0:List Rf) (L:List Bp),dH y x E0 (t.slots x.depth)/\(∀ q ∈ L,bh q.1/\y.cont q.1.1=some (q.1.2.toNat,q.2))/\L.Perm (aj t 0 0)/\(B2 x.rp E0++X6 L).Nodup/\y.room=77/\∀ k ∈ B2 x.rp E0++X6 L,∃ st bs,y.cont (k:Int)=some (st,bs)/\Ae 108 77 k st bs/\P (12+k)=some (D6 96 2 k st bs)
 high:t.high=x.depth
 ok:ee t 0 0
 per:x.per=6/\x.most=3
def C1.Eo0 (h:C1 w B y P a N){k:Int}{st:Nat}{bs:List Int}(hc:y.cont k=some (st,bs)):Ae y.pages y.room k st bs:=by
 obtain⟨x,c,hS,rfl,hi⟩:=h.ex;exact hi.holds.ok k st bs hc
def C1.sizes (h:C1 w B y P a N):y.first+y.pages=y.C0/\y.room+19=y.size:=by
 obtain⟨x,c,hS,rfl,hi⟩:=h.ex;exact⟨hS.rg.2.2.2.1,hS.rg.2.2.2.2⟩
section
variable {w w':w9}{B:P0}{bx bd:Nat}{y:Cs}{P:D4}{a:Bool}{N:Nat}{x:P1}{E0 slots:List Rf}{L:List Bp}{sp:Int}
def Y1.Dw0 {P:J2}(h:Y1 w B bx bd y P a N x E0 slots L sp):∀ k ∈ B2 x.rp E0++X6 L,∃ st bs,y.cont (k:Int)=some (st,bs):=fun k hk=>by
 rcases X5.1 hk with hk|hk
 .simp only[B2,d9,N4] at hk;rcases hk with rfl|⟨r,hr,rfl⟩
  .rw[pZ h.c.rr.1];exact⟨_,_,h.c.root⟩
  .rw[pZ (h.c.leaf.tr r hr).1];obtain⟨i,hi⟩:=ou.1 hr;exact⟨_,_,h.c.leaf.at_ i r hi⟩
 .obtain⟨q,hq,rfl⟩:=N4.1 hk;obtain⟨h1,h2⟩:=h.bk q hq;rw[pZ h1.1];exact⟨_,_,h2⟩
def Y1.yN0 (h:Y1 w B bx bd y P a N x E0 slots L sp)(hl:nH 2 w B y P a N)(h8:L.length<=8)(hg:y.gen<2199023255552)(hf:y.first=12) :
  cP 37 #[B.ptr] w (fun e w'=>e = rT (tU #[])/\D0 B w w'/\∃ n,∃ P':D4,Y1 w' (P0.next B n) bx bd y.commit P' a N x E0 slots L sp/\∀ k ∈ B2 x.rp E0++X6 L,∃ st bs,y.cont (k:Int)=some (st,bs)/\Ae 108 77 k st bs/\P' (12+k)=some (D6 96 2 k st bs)):=by
 refine (vW0 hl hg).mono ?_;rintro e w' ⟨rfl,F,n,P',hS,-,hk⟩;have hs:=h.small;have hv:=h.lv;have r9:=h.c.D7;have hsz:=h.st.sizes;refine⟨rfl,F,n,P',⟨hS,wO h.idx F,h.dir.T1 F,h.c.yM0 fun k hk=>(hv.tk k (pY _ hk)).2.2,(hv.commit ?_).r _,fun q hq=>⟨(h.bk q hq).1,?_⟩,h.len,h.plan,h.pages,h.room,h.places,h.per,h.base⟩,fun k aw=>?_⟩
 .simp only[B2,lA,lC,Z8];omega
 .obtain⟨h1,h2⟩:=h.bk q hq;obtain⟨m,hm⟩:=iZ h1.1;have hk:=(hv.tk q.1.1.toNat (lK _ (N4.2 ⟨q,hq,rfl⟩))).2.2;rw[hm] at hk h2 ⊢;rw[Tp (by simpa using hk)];exact h2
 .obtain⟨st,bs,hc⟩:=h.Dw0 k aw;obtain⟨t1,-,t3⟩:=hv.tk k aw;have h1:=(hk k (hv.lt k aw) t1 t3).1 st bs hc;have h2:=h.st.Eo0 hc;rw[h.pages,h.room] at h2;rw[hf,<- hsz.2,h.room] at h1;exact⟨st,bs,hc,h2,h1⟩
end
variable {t:Tr}
def Gm.narrow {P:D4}{x:P1}(h:Gm P x t):∃ (P':D4) (c:Cont) (E0:List Rf) (L:List Bp),(∀ s v,P' s=some v->P s=some v)/\Gm P' x t /\
  (∀ k st bs,c k=some (st,bs)->Ae 108 77 k st bs/\P' (12+k)=some (D6 96 2 k.toNat st bs))/\(∀ k:Nat,P' (12+k)≠none->k ∈ B2 x.rp E0++X6 L) /\
  (∀ y':Cs,y'.cont=c->y'.room=77->dH y' x E0 (t.slots x.depth)/\(∀ q ∈ L,bh q.1/\y'.cont q.1.1=some (q.1.2.toNat,q.2)))/\L.Perm (aj t 0 0)/\(B2 x.rp E0++X6 L).Nodup/\∀ k ∈ B2 x.rp E0++X6 L,k<108:=by
 obtain⟨y,E0,L,hD,hb,hP,hn,hr,hk⟩:=h.ex;obtain⟨pg,X4⟩:=eX (B2 x.rp E0++X6 L)
 have T4:∀ r ∈ ((x.rp,x.rs) :: E0),r.1.toNat ∈ pg/\0<=r.1:=fun r hr=>by
  rw[<- X4];rcases d9.1 hr with rfl|hr
  .exact⟨pY _ (by simp[B2]),hD.rr.1⟩
  .exact⟨pY _ (by simp only[B2,d9,N4];exact .inr ⟨r,hr,rfl⟩),(hD.leaf.tr r hr).1⟩
 have hib:∀ q ∈ L,q.1.1.toNat ∈ pg/\0<=q.1.1:=fun q hq=>⟨by rw[<- X4];exact lK _ (N4.2 ⟨q,hq,rfl⟩),(hb q hq).1.1⟩
 rw[X4] at hn hk;let c:Cont:=fun k=>if 0<=k/\k.toNat ∈ pg then y.cont k else none
 let P':D4:=fun s=>if 12<=s/\(s-12).toNat ∈ pg then P s else none
 have Pp:∀ k:Int,0<=k->k.toNat ∈ pg->c k=y.cont k:=fun k h0 h1=>if_pos ⟨h0,h1⟩
 have Jc:∀ k:Nat,k ∈ pg->P' (12+k)=P (12+k):=fun k h1=>if_pos ⟨oM,by rwa [show ((12:Int)+k-12).toNat=k by omega]⟩
 have dw:∀ q ∈ L,bh q.1/\c q.1.1=some (q.1.2.toNat,q.2):=fun q hq=>⟨(hb q hq).1,by rw[Pp _ (hib q hq).2 (hib q hq).1];exact (hb q hq).2⟩
 have hdk:∀ y':Cs,y'.cont=c->y'.room=77->dH y' x E0 (t.slots x.depth):=fun y' e1 e2=>hD.keeps (e2.trans hr.symm) (by rw[e1];exact Pp _ (T4 _ (List.mem_cons_self ..)).2 (T4 _ (List.mem_cons_self ..)).1) (fun r hr=>by rw[e1];exact Pp _ (T4 r (jH _ hr)).2 (T4 r (jH _ hr)).1)
 refine⟨P',c,E0,L,fun s v hv=>?_,⟨⟨{ y with cont:=c },E0,L,hdk _ rfl hr,dw,hP,by rw[X4];exact hn,hr,fun k aw=>?_⟩,h.high,h.ok,h.per⟩,fun k st bs hc=>?_,fun k hne=>?_,fun y' e1 e2=>⟨hdk y' e1 e2,by rw[e1];exact dw⟩,hP,by rw[X4];exact hn,fun k aw=>?_⟩
 .have hv':(if 12<=s/\(s-12).toNat ∈ pg then P s else none)=some v:=hv;split at hv'
  .exact hv'
  .cases hv'
 .rw[X4] at aw;obtain⟨st,bs,h1,h2,h3⟩:=hk k aw;exact⟨st,bs,by show c k=_;rw[Pp _ oM (by simpa using aw)];exact h1,h2,by rw[Jc k aw];exact h3⟩
 .have hc':(if 0<=k/\k.toNat ∈ pg then y.cont k else none)=some (st,bs):=hc;split at hc'
  .rename_i hm;obtain⟨st',bs',h1,h2,h3⟩:=hk k.toNat hm.2;rw[pZ hm.1,hc'] at h1;cases h1;rw[pZ hm.1] at h2;have:=Jc k.toNat hm.2;rw[h3] at this;rw[pZ hm.1] at this;exact⟨h2,this⟩
  .cases hc'
 .have bX:(if (12:Int)<=12+k/\((12:Int)+k-12).toNat ∈ pg then P (12+k) else none)≠none:=hne;split at bX
  .rename_i hm;rw[X4];rw[show ((12:Int)+k-12).toNat=k by omega] at hm;exact hm.2
  .exact absurd rfl bX
 .rw[X4] at aw;obtain⟨st,bs,-,h2,-⟩:=hk k aw;have:=h2.1;omega
def ui0 {l1 l2:List Rf}(h1:DX l1)(h2:DX l2)(hd:∀ q ∈ l1,∀ r ∈ l2,q.1≠r.1):DX (l1++l2):=fun i r hi=>by
 rcases jL i l1.length with hlt|cE
 .rw[jn hlt] at hi;rcases h1 i r hi with⟨j,rfl,hj⟩|hno
  .exact .inl ⟨j,rfl,by rw[jn oM];exact hj⟩
  .exact .inr fun j q hj hq=>hno j q hj (by rwa [jn oM] at hq)
 .rw[kN cE] at hi;rcases h2 _ r hi with⟨j,hj,Px⟩|hno
  .exact .inl ⟨l1.length+j,oM,by rw[kN oM,Mm];exact Px⟩
  .refine .inr fun j q hj hq=>?_
   rcases jL j l1.length with hl|hl
   .rw[jn hl] at hq;exact hd q (gM hq) r (gM hi)
   .rw[kN hl] at hq;exact hno (j-l1.length) q oM hq
def uh0 (h:(l.map (·.1)).Nodup):DX l:=fun i r hi=>.inr fun j q hj hq e=>by
 have h1:(l.map (·.1))[i]?=some r.1:=by rw[gP,hi];rfl
 have h2:(l.map (·.1))[j]?=some r.1:=by rw[gP,hq,<- e];rfl
 have:=(FM (gI.1 h1).1 h).1 (h1.trans h2.symm);omega
def Wx:∀ (t:Tr) (g:Nat),t.high<=g->(t.refs.map (·.1)).Nodup->DX (t.slots g)
 | .leaf r es,g,_,_=>fun i q hi=>by
  simp only[Tr.slots] at hi ⊢;rw[rk] at hi;split at hi
  .rename_i hlt;cases hi;cases i with
   | zero=>exact .inr fun j q hj=>by omega
   | succ j=>exact .inl ⟨j,rfl,by rw[rk,if_pos oM]⟩
  .cases hi
 | .node l r,g,hh,hn=>by
  simp only[Tr.high] at hh;simp only[Tr.refs,B9] at hn;obtain⟨h1,h2,h3⟩:=yh.1 hn;exact ui0 (Wx l (g-1) oM h1) (Wx r (g-1) oM h2) fun q hq q' hq'=>h3 _ (N4.2 ⟨q,(yU l (g-1) q oM).1 hq,rfl⟩) _ (N4.2 ⟨q',(yU r (g-1) q' oM).1 hq',rfl⟩)
def pe0 (h:(l.map fun r=>r.1.toNat).Nodup):(l.map (·.1)).Nodup:=by
 unfold List.Nodup at h ⊢;rw[An] at h ⊢;exact h.imp fun h e=>h (by rw[e])
variable {L:List Bp}
def WN (hP:L.Perm (aj t 0 0)):(X6 L).Perm (t.refs.map fun r=>r.1.toNat):=by
 have e:t.refs.map (fun r=>r.1.toNat)=(aj t 0 0).map fun q=>q.1.1.toNat:=by rw[<- OO t 0 0,EQ,xY,xY];rfl
 rw[e];exact hP.map _
def wB0 (hh:t.high<=g)(hP:L.Perm (aj t 0 0))(hn:(B2 rp E0++X6 L).Nodup):DX (((rp,rs) :: E0)++t.slots g):=by
 obtain⟨h1,h2,h3⟩:=yh.1 hn;refine ui0 (uh0 (pe0 (l:=(rp,rs) :: E0) h1)) (Wx t g hh (pe0 ((WN hP).nodup_iff.1 h2))) fun q hq r hr e=>?_
 refine h3 q.1.toNat ?_ r.1.toNat ?_ (by rw[e])
 .exact (show q.1.toNat ∈ List.map (fun r:Rf=>r.1.toNat) ((rp,rs) :: E0) from N4.2 ⟨q,hq,rfl⟩)
 .rw[(WN hP).mem_iff];exact N4.2 ⟨r,(yU t g r hh).1 hr,rfl⟩
def Ay0 (hh:t.high<=g)(hP:L.Perm (aj t 0 0))(h0:∀ r ∈ ((rp,rs) :: E0)++t.slots g,0<=r.1)(k:Nat):fo (((rp,rs) :: E0)++t.slots g) k=true↔k ∈ B2 rp E0++X6 L:=by
 have e1:k ∈ B2 rp E0↔∃ r ∈ (rp,rs) :: E0,r.1.toNat=k:=by
  show k ∈ List.map (fun r:Rf=>r.1.toNat) ((rp,rs) :: E0)↔_;rw[N4]
 have e2:k ∈ X6 L↔∃ r ∈ t.slots g,r.1.toNat=k:=by
  rw[(WN hP).mem_iff,N4];exact⟨fun⟨r,h,e⟩=>⟨r,(yU t g r hh).2 h,e⟩,fun⟨r,h,e⟩=>⟨r,(yU t g r hh).1 h,e⟩⟩
 rw[X5,e1,e2];simp only[fo,vK,decide_eq_true_eq];constructor
 .rintro⟨r,hr,e⟩;rcases X5.1 hr with h|h
  .exact .inl ⟨r,h,oM⟩
  .exact .inr ⟨r,h,oM⟩
 .rintro (⟨r,hr,e⟩|⟨r,hr,e⟩)
  .exact⟨r,pY _ hr,by have:=h0 r (pY _ hr);omega⟩
  .exact⟨r,lK _ hr,by have:=h0 r (lK _ hr);omega⟩
def C1.shut {P:D4}(h:C1 w B y ⟨P,true⟩ a N)(hp:∀ k:Nat,k<y.pages->P (y.first+k)≠none->y.taken k=true/\y.fresh k=false):C1 w B y P a N:=by
 obtain⟨⟨x,c,hS,rfl,hi⟩,hT,hb⟩:=h;exact⟨⟨x,c,hS,rfl,hi.down,hi.dev,⟨hi.holds.ok,hi.holds.mem,hi.holds.dev⟩,fun _ k hk hne=>hp k hk hne,hi.apart,hi.few⟩,hT,hb⟩
structure YP (y:Cs)(gen:Nat)(c:Cont):Prop where
 plan:y.plan=fC
 first:y.first=12
 pages:y.pages=108
 room:y.room=77
 places:y.places=8
 gen:y.gen=gen+1
 cont:y.cont=c
 taken:y.taken=fun _=>false
 fresh:y.fresh=fun _=>false
 dying:y.dying=fun _=>false
 dead:y.dead=fun _=>false
end
section
open Go.RowKit Go.Sg CP SF
def NF (g most slots sp:Int)(l:Lb)(w:w9)(e:Ending)(w':w9):Prop:=∃ v,e = rT (ai g most slots v sp)/\OwnB w' 0 v l/\Fq w w'
def zM0 (w:w9)(most slots:Int):cP 74 #[iI most,iI slots] w (NF 0 most slots 0 [(0,0,[])] w):=by
 obtain⟨w1,I0⟩:=eX (w.alloc (.cells #[iI 0,iI 0,iI 0,sL none 0 0,iI 0] 137))
 obtain⟨z,hz⟩:=eX w.heap.size
 have F1:=fA I0
 have E3:w1.heap.size=z+1:=by rw[<- I0,<- hz];simp
 have aa:=hid (show ∀ W0 W',((((w1.setCell z (iI 0)).setCell (aA z 1) (iI most)).setCell (aA z 2) (iI slots)).setCell (aA z 3) (sL w1 1 1)).setCell (aA z 4) (iI 0)=W0->W0.alloc (.cells #[iI 0,iI 0,sL none 0 0] 220)=W'->NF 0 most slots 0 [(0,0,[])] w (rT (ai 0 most slots (sL w1 1 1) 0)) W' from fun W0 W' h0 hW=>by
  have F:Fr (fun b=>b=z) w1 W0:=by
   rw[<- h0];with_reducible (repeat (first|exact fR|refine Fr.setCell ?_ (fun _=>by simp) _))
  have eD:W0.heap.size=w1.heap.size:=by rw[<- h0];simp
  have b1:W'.heap[w1.heap.size]?=some (.cells #[iI 0,iI 0,sL none 0 0] 220):=by rw[<- hW,<- eD];exact han _ _
  refine⟨_,rfl,⟨[⟨0,0,none,0,[]⟩],rfl,⟨rfl,.inr ⟨_,1,_,rfl,C3 _,b1,nR _,dC,rfl,rfl⟩⟩,fun x hx=>?_⟩,?_⟩
  .rw[mZ] at hx;subst hx;exact World.ownsRow_nil _ _ _ _
  .rw[<- hW];exact (F1.trans F fun b hb e=>oM).alloc _)
 obtain⟨x0,x1,x2,x3,x4,xz,xl⟩:=cells5 (show w1.heap[z]?=some (.cells #[iI 0,iI 0,iI 0,sL none 0 0,iI 0] 137) by rw[<- I0,<- hz];exact han _ _);have HW:=hid I0;have HZ:=hid hz;clear F1 I0 hz E3;go_enter func74,ntmps74;go_upto_region 1 with fail
 rw[HW];try simp only[HZ.o]
 go_wp2_with fail
 refine bodyPost_ret (v:=ai 0 most slots (sL w1 1 1) 0) sR rfl ?_;exact aa _ _ rfl rfl
def Ya {l:List Rb}:∀ u ∈ l.flatMap yp,u.oneCell'=true:=by
 intro u hu;obtain⟨x,_,hx⟩:=ui.1 hu;simp[yp] at hx;rcases hx with rfl|rfl|rfl <;> rfl
variable {V W' w wr:w9}{c d h i j p s z:Nat}{g most slots sp:Int}{xs:List Rb}{a:Option Addr}{c0:Array Value}{v v0 v1 v2 v3:Value}
def BN0 {m:Nat}{c2:Array Value}(hz:w.heap.size=z)(hF:Fq w wr)(h0:wr.heap[z]?=some (.cells c0 137))(h2:wr.heap[z+1]?=some (.cells c2 137))(hO:wr.ownsRow z 220 3 (sL a m c) m (xs.flatMap yp))(hm:xs.length=m)(hE:∀ x ∈ xs,t8 w 0 x.v x.es)
  (hW:(((((wr.setCell (aA z 3) (sL a m c)).setCell (aA (z+1) 0) (iI g)).setCell (aA (z+1) 1) (iI most)).setCell (aA (z+1) 2) (iI slots)).setCell (aA (z+1) 3) (sL a m c)).setCell (aA (z+1) 4) (iI sp)=W') :
  NF g most slots sp (xs.map Rb.key) w (rT (ai g most slots (sL a m c) sp)) W':=by
 subst hm;have F:Fr (fun b=>b=z\/b=z+1) wr W':=by
  rw[<- hW];with_reducible (repeat (first|exact fR|refine Fr.setCell ?_ (fun _=>by simp) _))
 have FW:Fq w W':=hF.trans F fun b hb e=>oM;refine⟨_,rfl,⟨xs,rfl,K3 (ao hO oM) F fun g c' hg e=>?_,fun x hx=>oN (hE x hx) FW⟩,FW⟩;rcases e with e|e
 .rw[e,h0] at hg;cases hg
 .rw[e,h2] at hg;cases hg
variable {l m:Lb}
def pS0 {l2:Lb}(hB:OwnB w 0 v l)(BV:OwnB w 0 v2 l2)(hl:l.length<=60000)(A8:l2.length<=2)(g most slots sp:Int)(hi:i<l.length) :
  cP 207 #[ai g most slots v sp,iI i,v2] w (NF g most slots sp (l.take i++l2++l.drop (i+1)) w):=by
 obtain⟨xs,rfl,hR,hE⟩:=hB;obtain⟨ys,rfl,pB,hE2⟩:=BV;obtain⟨va,vc,rfl,Dz,-,-,-⟩:=A2 hR;obtain⟨vN,vO,rfl,-,-,-,-⟩:=A2 pB;obtain⟨n,hn⟩:=eX xs.length
 obtain⟨m,hm⟩:=eX ys.length
 rw[Z8] at hi hl A8;obtain⟨w1,I0⟩:=eX ((w.alloc (.cells #[iI g,iI most,iI slots,sL va n vc,iI sp] 137)).alloc (.cells #[iI 0,iI 0,iI 0,sL none 0 0,iI 0] 137))
 obtain⟨z,hz⟩:=eX w.heap.size
 obtain⟨b0,b1,F1⟩:=n9 I0;rw[hz] at b0 b1;have E3:w1.heap.size=z+2:=by rw[<- I0,<- hz];simp
 rw[hn] at hi hl Dz;rw[hm] at A8;have Wc:∀ W,(Instr.slice 135 (sL va n vc) none (some (iI i)) none).run prog W = .ok (sL va i vc) W:=fun W=>Oq 135 3 kF (fun W=>by kernel_rfl) va n vc i oM W
 obtain⟨a2,tt,hF2⟩:∃ a2:Option Addr,(∀ W,(Instr.slice 135 (sL va n vc) (some (iI ((i:Int)+1))) none none).run prog W = .ok (sL a2 (n-(i+1)) (vc-(i+1))) W)/\∀ V,Fq w V->rx V (sL a2 (n-(i+1)) (vc-(i+1))) (n-(i+1)) ((xs.flatMap yp).drop ((i+1)*3)):=⟨_,fun W=>by have:=Bu 135 3 kF (fun W=>by kernel_rfl) va n vc (i+1) oM W;simpa only[Int.natCast_add,Int.natCast_one] using this,fun V F=>by have:=gg0 (oN hR F) (i+1) oM;rwa [hn] at this⟩
 have fL:wrap64 ((i:Int)+1)=(i:Int)+1:=by simp only[wrap64];omega
 have HT:=hid fun V (F:Fq w V)=>jK0 (oN hR F) i oM;have wB:=hid fun V (F:Fq w V)=>wT (oN pB F);rw[hm] at wB;have HFm:=hid hF2;have HC:=hid fun V (F:Fq w1 V)=>aI (cells5 (F.heap b0 id)) (cells5 (F.heap b1 id));have HB:=hi2 b0 b1;have HN:=hid hn;have HM:=hid hm;have HF:=hid F1;have HW:=hid I0;have HZ:=hid hz;have HS:=hid E3;have HE:=hi2 hE hE2;rw[hn,hm];obtain⟨i0,A3,J1,M1,O1⟩:=info_parts Hw;obtain⟨⟨x0,x1,x2,x3,x4,xz,xl⟩,⟨y0,y1,y2,y3,y4,yz,yl⟩⟩:=HC.o _ fR;clear hR pB hn hm F1 I0 b0 b1 E3 hz hE hE2 hF2;have Vd:i<=60000:=oM
 go_enter func207,ntmps207;go_upto_region 1 with fail
 rw[HW];try simp only[HZ.o]
 go_wp2_with (at_builtin;refine mq rfl (.tmp 8) (.tmp 12) 135 rfl w1.heap.size 220 i0 _ 3 40 underlying135 A3 J1 M1 O1 rfl dC _ _ _ rfl (IA _ _ (nR _) _ _ _ (by simp[go_sem])) (sL va i vc) i ((xs.flatMap yp).take (i*3)) rfl (HT _ (HF.alloc _)) (by rw[lT,Yp ze,HN];omega) (fun u hu=>Ya u (ov hu)) (by simp only[maxLen];omega) oM sP ?_)
 intro v3 W3 ve Q3 _;try simp only[C7,o8] at ve
 obtain⟨a3,c3,rfl,-,-,-,-⟩:=A2 ve;have F3:Fq w1 W3:=((Fr.refl (fun b=>b=w1.heap.size) _).alloc _).trans (Fr.of_grownBy Q3) (fun b _ h=>h) |>.mono fun b hb h=>oM
 have H3:=hi2 ve F3;clear ve Q3 x0 x1 x2 x3 x4 xz xl y0 y1 y2 y3 y4 yz yl Wc;have P5:=F3.size;go_wp2_with (at_builtin;refine mq rfl (.tmp 14) (.tmp 15) 135 rfl w1.heap.size 220 i0 _ 3 40 underlying135 A3 J1 M1 O1 rfl dC _ i _ rfl H3.1 (sL vN m vO) m (ys.flatMap yp) rfl (wB _ (HF.trans H3.2 nI)) (by rw[Yp ze,HM]) Ya (by simp only[maxLen];omega) oM P5 ?_)
 intro v4 W4 af lE _;obtain⟨a4,c4,rfl,-,-,-,-⟩:=A2 af;have F4:Fq w1 W4:=F3.trans (Bz H3.1 lE) fun b hb h=>oM;have H4:=hi2 af F4;clear af lE F3 P5;have cX:=F4.size;obtain⟨⟨x0,x1,x2,x3,x4,xz,xl⟩,⟨y0,y1,y2,y3,y4,yz,yl⟩⟩:=HC.o _ F4;clear F4;go_wp2_with (at_builtin;refine mq rfl (.tmp 17) (.tmp 22) 135 rfl w1.heap.size 220 i0 _ 3 40 underlying135 A3 J1 M1 O1 rfl dC _ (i+m) _ rfl H4.1 (sL a2 (n-(i+1)) (vc-(i+1))) (n-(i+1)) _ rfl (HFm _ (HF.trans H4.2 nI)) (by rw[ed,Yp ze,HN];omega) (fun u hu=>Ya u (xZ hu)) (by simp only[maxLen];omega) oM cX ?_)
 intro v5 W5 fH mQ _;obtain⟨a5,c5,rfl,-,-,-,-⟩:=A2 fH;have F5:Fq w1 W5:=H4.2.trans (Bz H4.1 mQ) fun b hb h=>oM;have H5:=hi2 fH F5;clear fH mQ cX x0 x1 x2 x3 x4 xz xl y0 y1 y2 y3 y4 yz yl;obtain⟨⟨x0,x1,x2,x3,x4,xz,xl⟩,⟨y0,y1,y2,y3,y4,yz,yl⟩⟩:=HC.o _ F5;clear F5 tt fL;obtain⟨r,hr⟩:=eX (i+m+(n-(i+1)))
 rw[hr] at H5;try simp only[hr]
 have Ns:=hid hr;clear hr Dz hl A8 Vd;go_wp2_with fail
 refine bodyPost_ret (v:=ai g most slots (sL a5 r c5) sp) sR rfl ?_;have hl:(xs.take i++ys++xs.drop (i+1)).length=r:=by rw[lA,lA,lT,ed,HN,HM,<- Ns,Nat.min_eq_left oM]
 have hh:=BN0 (xs:=xs.take i++ys++xs.drop (i+1)) HZ.o (HF.trans H5.2 nI) (H5.2.heap HB.1 id) (H5.2.heap HB.2 id) (ao (by
  have:=H5.1;rw[zx0 ze,zy0 ze,<- dY,<- dY,<- dD] at this;exact this) (by have:=HS.o;omega)) hl (fun x hx=>by
  rcases X5.1 hx with hx|hx
  .rcases X5.1 hx with hx|hx
   .exact HE.1 x (ov hx)
   .exact HE.2 x hx
  .exact HE.1 x (xZ hx)) (g:=g) (most:=most) (slots:=slots) (sp:=sp) rfl
 rw[B9,B9,List.map_take,List.map_drop] at hh;exact hh
def Rw (o:Option Bt)(w:w9)(e:Ending)(w':w9):Prop:=e = rT (tU #[E8 (o.getD ⟨0,0,0,0⟩),bO o.isSome])/\Fq w w'
def lH0 (es:List Bt)(h:Nat):(mx es h = -1/\bS es h=none)\/∃ (k:Nat) (x:Bt),mx es h=k/\es[k]?=some x/\bS es h=some x:=by
 cases hf:es.findIdx? (fun x=>decide (x.hash=h)) with
 | none =>
  refine .inl ⟨by unfold mx;rw[hf],?_⟩;rw[ud] at hf;exact Qm.2 fun x hx=>by simpa using hf x hx
 | some k =>
  have:=hf;rw[ox] at this;obtain⟨h1,h2,h3⟩:=this;refine .inr ⟨k,es[k],by unfold mx;rw[hf],gE h1,?_⟩;unfold bS;rw[List.find?_eq_some_iff_getElem];exact⟨h2,k,h1,rfl,fun j hj=>by have:=h3 j hj;simpa using this⟩
def getD_some {α:Type}{l:List α}{k:Nat}{x:α}(h:l[k]?=some x):k<l.length:=(gI.1 h).1
variable {b:Nat × Nat × List Bt}
def QQ (h:(xs.map Rb.key)[i]?=some b):∃ x,xs[i]?=some x/\x.key=b:=by
 rw[gP] at h;cases hx:xs[i]? with
 | none=>rw[hx] at h;cases h
 | some x=>rw[hx] at h;exact⟨x,rfl,by simpa using h⟩
def xI0 {w1:w9}{o:Option Bt}{e:Ending}(hz:w.heap.size=z)(hF:Fq w w1)(qV:Fq w1 wr)(he:e = rT (tU #[E8 (o.getD ⟨0,0,0,0⟩),bO o.isSome]))
  (hW:(((wr.setCell (aA (z+1) 0) v0).setCell (aA (z+1) 1) v1).setCell (aA (z+1) 2) v2).setCell (aA (z+1) 3) v3=W'):Rw o w e W':=by
 have F:Fr (fun b=>b=z+1) wr W':=by rw[<- hW];with_reducible (repeat (first|exact fR|refine Fr.setCell ?_ (fun _=>by simp) _))
 exact⟨he,(hF.trans qV nI).trans F fun b hb e=>oM⟩
def uo0 (hB:OwnB w 0 v l)(hl:l.length<=60000)(g most slots sp:Int)(h:Nat)(hh:h<18446744073709551616)(hd:∀ b ∈ l,b.1<=20/\b.2.2.length<=60000)(hi:l.findIdx? (R9 h)=some i)(hb:l[i]?=some b) :
  cP 144 #[ai g most slots v sp,iU h] w (Rw (bS b.2.2 h) w):=by
 have kQ:=hid fun V (F:Fq w V)=>Yv (hB.fr F) hl g most slots sp h hh (fun b hb=>(hd b hb).1) hi;have J6:=(hd b (gM hb)).2;obtain⟨xs,rfl,hR,hE⟩:=hB;obtain⟨va,vc,rfl,-,-,-,-⟩:=A2 hR;obtain⟨x,hx,rfl⟩:=QQ hb;replace J6:x.es.length<=60000:=J6
 have T4:=getD_some hx;have zo:=hE x (gM hx);obtain⟨gb,rfl,hg,c0,c1,c2⟩:=LL hR hx;obtain⟨n,hn⟩:=eX xs.length
 rw[Z8] at hl;rw[hn] at hR T4 hl kQ ⊢;obtain⟨w1,I0⟩:=eX ((w.alloc (.cells #[iI g,iI most,iI slots,sL gb n vc,iI sp] 137)).alloc (.cells #[iU 0,iI 0,iI 0,iI 0] 110))
 obtain⟨z,hz⟩:=eX w.heap.size
 obtain⟨b0,b1,F1⟩:=n9 I0;rw[hz] at b0 b1;have E3:w1.heap.size=z+2:=by rw[<- I0,<- hz];simp
 have HC:=hid fun V (F:Fq w1 V)=>aI (cells5 (F.heap b0 id)) (aI (((F1.trans F nI).cell (p:=⟨gb,i*3,none⟩) hg id).trans c0) (aI (((F1.trans F nI).cell (p:=⟨gb,i*3+1,none⟩) hg id).trans c1) (aI (((F1.trans F nI).cell (p:=⟨gb,i*3+2,none⟩) hg id).trans c2) (E4 hg (F1.trans F nI).size))));have HY:=hid fun V (F:Fq w1 V)=>D8 (F.heap b1 id);have uG:=hid fun V (F:Fq w1 V)=>oN zo (F1.trans F nI);have HF:=hid F1;have HW:=hid I0;have HZ:=hid hz;have HS:=hid E3;have xy:(i:Int)<(n:Int):=oM
 have FD:=(Fr.refl (fun _=>False) w1).drew;clear hE hR zo hx hn I0 F1 b0 b1 E3 hz hd c0 c1 c2 hg hb hi;go_enter func144,ntmps144;go_upto_region 1 with fail
 rw[HW];try simp only[HZ.o]
 refine wp_region_noPanic ?_;refine q8 (fun V=>Fq w1 V) (.rd 0 (.rd 1 (.rd 2 (.rd 3 (.two 4 7 (.rd 5 (.rd 6 (.op 7 (.op 8 .done)))) (.op 4 (.rd 5 (.rd 6 (.op 8 .done)))))))) ) kF kF kF (fun _ _ _ _ _ h=>h) FD ?_;iterate 4
  refine oP ?_ ?_ ?_;rotate_left
  .intro V hV;obtain⟨⟨x0,x1,x2,x3,x4,xz,xl⟩,e0,e1,e2,eg⟩:=HC.o V hV;go_simp;try with_reducible rfl
 refine mu ?_ ?_;focus
  refine rQ fun K hK=>?_
  (with_reducible refine (kQ.o _ (HF.o.trans FD nI)).mono ?_)
  rintro _ V1 ⟨rfl,G1⟩;have F1:=FD.trans G1 nI;refine hK _ _ F1 ?_;clear hK K;iterate 2
   refine oP ?_ ?_ ?_;rotate_left
   .intro V hV;obtain⟨⟨x0,x1,x2,x3,x4,xz,xl⟩,e0,e1,e2,eg⟩:=HC.o V hV;go_simp;try with_reducible rfl
  refine rQ fun K hK=>?_;obtain⟨V2,K5⟩:=eX (V1.alloc (.cells #[iI 0,iI 0,sL none 0 0] 220))
  obtain⟨s,hs⟩:=eX V1.heap.size
  have b2:V2.heap[s]?=some (.cells #[iI 0,iI 0,sL none 0 0] 220):=by rw[<- K5,<- hs];exact han _ _
  have F2:Fq w1 V2:=by rw[<- K5];exact F1.alloc _
  have X3:w1<=s:=by rw[<- hs];exact F1.size
  rw[K5];try simp only[hs]
  refine hK _ _ F2 ?_;clear hK K K5 hs G1;refine rP fun K hK=>?_;obtain⟨u0,u1,u2,uz,ul⟩:=cells3 b2;go_simp;obtain⟨V3,T8⟩:=eX (((V2.setCell s (iI x.d)).setCell (aA s 1) (iI x.p)).setCell (aA s 2) x.v)
  rw[T8];have b3:V3.heap[s]?=some (.cells #[iI x.d,iI x.p,x.v] 220):=by rw[<- T8,hsc _ _ _ _ (hsc _ _ _ _ (hsc _ _ _ _ b2))];rfl
  have Z9:Fr (fun b=>b=s) V2 V3:=by rw[<- T8];with_reducible (repeat (first|exact fR|refine Fr.setCell ?_ (fun _=>by simp) _))
  have F3:Fq w1 V3:=F2.trans Z9 fun b hb e=>oM;refine hK _ _ F3 ?_;clear hK K T8 u0 u1 u2 uz ul b2 Z9 F2 F1;refine o5 ?_;refine NoPanic.normal ?_;try simp only[Act.put,sI,sZ,sS]
 rotate_left;focus
  refine rQ fun K hK=>?_;obtain⟨V2,K5⟩:=eX ((w1.alloc (.cells #[iI 0,iI 0,sL none 0 0] 220)).drew)
  obtain⟨s,hs⟩:=eX w1.heap.size
  have b2:V2.heap[s]?=some (.cells #[iI 0,iI 0,sL none 0 0] 220):=by rw[<- K5,<- hs];exact han w1 (.cells #[iI 0,iI 0,sL none 0 0] 220)
  have F2:Fq w1 V2:=by rw[<- K5];exact (fR.alloc _).drew
  have X3:w1<=s:=oM
  rw[K5];try simp only[hs]
  refine hK _ _ F2 ?_;clear hK K K5 hs;refine rQ fun K hK=>?_
  (with_reducible refine (kQ.o _ (HF.o.trans F2 nI)).mono ?_)
  rintro _ V1 ⟨rfl,G1⟩;have F1:=F2.trans G1 nI;replace b2:=G1.heap b2 id
  refine hK _ _ F1 ?_;clear hK K;iterate 2
   refine oP ?_ ?_ ?_;rotate_left
   .intro V hV;obtain⟨⟨x0,x1,x2,x3,x4,xz,xl⟩,e0,e1,e2,eg⟩:=HC.o V hV;go_simp;try with_reducible rfl
  refine rP fun K hK=>?_;obtain⟨u0,u1,u2,uz,ul⟩:=cells3 b2;go_simp;obtain⟨V3,T8⟩:=eX (((V1.setCell s (iI x.d)).setCell (aA s 1) (iI x.p)).setCell (aA s 2) x.v)
  rw[T8];have b3:V3.heap[s]?=some (.cells #[iI x.d,iI x.p,x.v] 220):=by rw[<- T8,hsc _ _ _ _ (hsc _ _ _ _ (hsc _ _ _ _ b2))];rfl
  have Z9:Fr (fun b=>b=s) V1 V3:=by rw[<- T8];with_reducible (repeat (first|exact fR|refine Fr.setCell ?_ (fun _=>by simp) _))
  have F3:Fq w1 V3:=F1.trans Z9 fun b hb e=>oM;refine hK _ _ F3 ?_;clear hK K T8 u0 u1 u2 uz ul b2 Z9 F2 F1 G1;refine o5 ?_;refine NoPanic.normal ?_;try simp only[Act.put,sI,sZ,sS]
 all_goals
  have H3:=hi2 F3 b3;obtain⟨u0,u1,u2,uz,ul⟩:=cells3 b3;have Bg:=hid (OM (d:=x.d) (p:=x.p) (uG _ F3) (nT J6 dC) h);clear F3 b3 FD X3;go_wp2_with fail
  (with_reducible refine Bg.o.mono ?_)
  rintro _ V4 ⟨rfl,F4⟩;have H4:=hi2 (H3.1.trans F4 nI) (F4.heap H3.2 id);clear F4 u0 u1 u2 uz ul;obtain⟨u0,u1,u2,uz,ul⟩:=cells3 H4.2;obtain⟨y0,y1,y2,y3,yz,yl⟩:=HY.o _ H4.1;rcases lH0 x.es h with⟨e1,e2⟩|⟨k,y,e1,e2,e3⟩
  .have HV:=hid (show bS x.key.2.2 h=none from e2);rw[e1];have hlt:decide ((-1:Int)<0)=true:=by decide
   clear e1 e2;go_wp2_with fail
   refine bodyPost_ret (v:=tU #[E8 ⟨0,0,0,0⟩,bO false]) sR rfl ?_;exact xI0 HZ.o HF.o H4.1 (by rw[HV];rfl) rfl
  .have HV:=hid (show bS x.key.2.2 h=some y from e3);rw[e1];have hlt:decide ((k:Int)<0)=false:=by simp
   have lG:k<x.es.length:=getD_some e2;have cF:(k:Int)<(x.es.length:Int):=oM
   obtain⟨ge,he,cE,q0,q1,q2,q3⟩:=qO (uG _ H4.1) e2;replace u2:V4.cell? (aA s 2)=some (sL ge x.es.length x.c):=by rw[u2,<- he]
   clear e1 e2 e3 he;go_wp2_with fail
   refine bodyPost_ret (v:=tU #[E8 y,bO true]) sR rfl ?_;exact xI0 HZ.o HF.o H4.1 (by rw[HV];rfl) rfl
def Ex (g most slots sp:Int)(ok:Bool)(l:Lb)(w:w9)(e:Ending)(w':w9):Prop:=∃ v,e = rT (tU #[ai g most slots v sp,bO ok])/\OwnB w' 0 v l/\Fq w w'
def xJ0 (es:List Bt)(h:Nat):decide (mx es h≥0)=(bS es h).isSome:=by
 rcases lH0 es h with⟨e1,e2⟩|⟨k,y,e1,e2,e3⟩
 .rw[e1,e2];rfl
 .rw[e1,e3];simp
def OwnB.slice {b:Nat}(h:OwnB w b v l):∃ a c,v = sL a l.length c:=by
 obtain⟨xs,rfl,h2,-⟩:=h;obtain⟨a,c,rfl,-⟩:=A2 h2;exact⟨a,c,by rw[Z8]⟩
variable {es:List Bt}
def ph0 (h:V.heap[s]?=some (.cells #[iI d,iI p,sL a es.length c] 220))(hE:t8 V 0 (sL a es.length c) es):OwnB V 0 (sL s 1 1) [(d,p,es)]:=
 ⟨[⟨d,p,a,c,es⟩],rfl,⟨rfl,.inr ⟨s,1,_,rfl,C3 _,h,nR _,dC,rfl,rfl⟩⟩,fun x hx=>by rw[mZ] at hx;subst hx;exact hE⟩
def wd0 {c' d' p':Nat}{a':Option Addr}{es':List Bt}(h:V.heap[s]?=some (.cells #[iI d,iI p,sL a es.length c,iI d',iI p',sL a' es'.length c'] 220))(hE:t8 V 0 (sL a es.length c) es)(OY:t8 V 0 (sL a' es'.length c') es'):OwnB V 0 (sL s 2 2) [(d,p,es),(d',p',es')]:=
 ⟨[⟨d,p,a,c,es⟩,⟨d',p',a',c',es'⟩],rfl,⟨rfl,.inr ⟨s,2,_,rfl,C3 _,h,nR _,dC,rfl,rfl⟩⟩,fun x hx=>by
  rcases d9.1 hx with e|hx
  .subst e;exact hE
  .rw[mZ] at hx;subst hx;exact OY⟩
def YD {ok:Bool}{v4:Value}(hz:w<z)(hF:Fq w wr)(h0:wr.heap[z]?=some (.cells c0 137))(hO:OwnB wr 0 v l)
  (hW:((((wr.setCell z v0).setCell (aA z 1) v1).setCell (aA z 2) v2).setCell (aA z 3) v3).setCell (aA z 4) v4=W') :
  Ex g most slots sp ok l w (rT (tU #[ai g most slots v sp,bO ok])) W':=by
 have F:Fr (fun b=>b=z) wr W':=by rw[<- hW];with_reducible (repeat (first|exact fR|refine Fr.setCell ?_ (fun _=>by simp) _))
 obtain⟨xs,h1,h2,h3⟩:=hO;refine⟨v,rfl,⟨xs,h1,K3 h2 F (fun g c' hg e=>by rw[e,h0] at hg;cases hg),fun x hx=>K3 (h3 x hx) F fun g c' hg e=>by rw[e,h0] at hg;cases hg⟩,hF.trans F fun b hb e=>oM⟩
def uu0 (hB:OwnB w 0 v l)(hl:l.length<=60000)(g most slots sp:Int)(h:Nat)(hh:h<18446744073709551616)(hd:∀ b ∈ l,b.1<=20/\b.2.2.length<=60000)(hi:l.findIdx? (R9 h)=some i)(hb:l[i]?=some b) :
  cP 145 #[ai g most slots v sp,iU h] w (Ex g most slots sp (bS b.2.2 h).isSome (l.take i++[(b.1,b.2.1,b.2.2.filter (I8 h))]++l.drop (i+1)) w):=by
 have kQ:=hid fun V (F:Fq w V)=>Yv (hB.fr F) hl g most slots sp h hh (fun b hb=>(hd b hb).1) hi;have J6:=(hd b (gM hb)).2;have yN:=hid fun V (F:Fq w V) (v2:Value) (l2:Lb) (h2:OwnB V 0 v2 l2) (A8:l2.length<=2)=>pS0 (hB.fr F) h2 hl A8 g most slots sp (getD_some hb);obtain⟨xs,rfl,hR,hE⟩:=hB;obtain⟨va,vc,rfl,-,-,-,-⟩:=A2 hR;obtain⟨x,hx,rfl⟩:=QQ hb;replace J6:x.es.length<=60000:=J6
 have T4:=getD_some hx;have zo:=hE x (gM hx);obtain⟨gb,rfl,hg,c0,c1,c2⟩:=LL hR hx;obtain⟨n,hn⟩:=eX xs.length
 rw[Z8] at hl;rw[hn] at hR T4 hl kQ yN ⊢;obtain⟨w1,I0⟩:=eX ((w.alloc (.cells #[iI g,iI most,iI slots,sL gb n vc,iI sp] 137)).alloc (.cells #[iI 0,iI 0,iI 0,sL none 0 0,iI 0] 137))
 obtain⟨z,hz⟩:=eX w.heap.size
 obtain⟨b0,b1,F1⟩:=n9 I0;rw[hz] at b0 b1;have HC:=hid fun V (F:Fq w1 V)=>aI (cells5 (F.heap b0 id)) (aI (((F1.trans F nI).cell (p:=⟨gb,i*3,none⟩) hg id).trans c0) (aI (((F1.trans F nI).cell (p:=⟨gb,i*3+1,none⟩) hg id).trans c1) (aI (((F1.trans F nI).cell (p:=⟨gb,i*3+2,none⟩) hg id).trans c2) (E4 hg (F1.trans F nI).size))));have HY:=hid fun V (F:Fq w1 V)=>F.heap b1 id;have oI:=hid (fun V (F:Fr (fun b=>b=z+1) w1 V)=>aI (cells5 (F.heap b0 fun h=>oM)) (aI ((F.cell (p:=⟨gb,i*3,none⟩) (E4 hg F1.size) (fun h=>by have:gb=z+1:=h;omega)).trans ((F1.cell (p:=⟨gb,i*3,none⟩) hg id).trans c0)) (aI ((F.cell (p:=⟨gb,i*3+1,none⟩) (E4 hg F1.size) (fun h=>by have:gb=z+1:=h;omega)).trans ((F1.cell (p:=⟨gb,i*3+1,none⟩) hg id).trans c1)) (aI ((F.cell (p:=⟨gb,i*3+2,none⟩) (E4 hg F1.size) (fun h=>by have:gb=z+1:=h;omega)).trans ((F1.cell (p:=⟨gb,i*3+2,none⟩) hg id).trans c2)) (E4 (E4 hg F1.size) F.size)))));have uG:=hid fun V (F:Fq w1 V)=>oN zo (F1.trans F nI);have HF:=hid F1;have HW:=hid I0;have HZ:=hid hz;have xy:(i:Int)<(n:Int):=oM
 have HK:=hid (show bS x.key.2.2 h=bS x.es h from rfl);obtain⟨⟨x0,x1,x2,x3,x4,xz,xl⟩,e0,e1,e2,eg⟩:=HC.o _ fR;clear hE hR zo hx hn I0 F1 b0 b1 hz hd c0 c1 c2 hg hb hi;go_enter func145,ntmps145;go_upto_region 1 with fail
 rw[HW];try simp only[HZ.o]
 go_wp2_with fail
 (with_reducible refine (kQ.o _ HF.o).mono ?_)
 rintro _ V1 ⟨rfl,F1⟩;have Bg:=hid (OM (d:=x.d) (p:=x.p) (uG _ F1) (nT J6 dC) h);have H1:=hid F1;clear x0 x1 x2 x3 x4 xz xl e0 e1 e2 eg;obtain⟨⟨x0,x1,x2,x3,x4,xz,xl⟩,e0,e1,e2,eg⟩:=HC.o _ F1;clear F1;go_wp2_with fail
 (with_reducible refine Bg.o.mono ?_)
 rintro _ V2 ⟨rfl,F2⟩;have H2:=hid (H1.trans F2 nI);obtain⟨ok,hok⟩:=eX (decide (mx x.es h≥0))
 have Er:=hid hok;clear F2 x0 x1 x2 x3 x4 xz xl e0 e1 e2 eg;obtain⟨⟨x0,x1,x2,x3,x4,xz,xl⟩,e0,e1,e2,eg⟩:=HC.o _ H2.o;go_upto_region 3 with fail
 clear x0 x1 x2 x3 x4 xz xl e0 e1 e2 eg;refine wp_region_noPanic ?_;refine q8 (fun V=>Fr (fun b=>b=z+1) w1 V) (.rd 0 (.rd 1 (.rd 2 (.rd 3 (.rd 4 (.rd 5 (.rd 6 (.rd 7 (.rd 11 (.op 8 (.op 9 (.op 10 (.op 12 (.rd 13 .done)))))))))))))) kF kF kF (fun _ _ _ _ _ h=>h) (H2.drew.mono nE) ?_;iterate 8
  refine oP ?_ ?_ ?_;rotate_left
  .intro V hV;obtain⟨⟨x0,x1,x2,x3,x4,xz,xl⟩,e0,e1,e2,eg⟩:=oI.o V hV;go_simp;try with_reducible rfl
 refine oR ?_
 refine rQ fun K hK=>?_;have FD:=H2.drew
 (with_reducible refine (uv0 (uG.o _ FD) (nT J6 dC) x.d x.p h).mono ?_)
 rintro _ V3 ⟨a3,c3,rfl,ve,G3⟩;have F3:=FD.trans G3 nI;refine hK _ _ (F3.mono nE) ?_;clear hK K G3;refine rQ fun K hK=>?_;obtain⟨V4,O4⟩:=eX (V3.alloc (.cells #[iI x.d,iI x.p,.slice a3 (x.es.filter (I8 h)).length c3] 220))
 have b4:=fB O4
 have Q5:=fA O4
 have F4:=F3.trans Q5 nI;rw[O4];refine hK _ _ (F4.mono nE) ?_;clear hK K;have af:=ph0 b4 (ao (oN ve Q5) (C3 _));refine rQ fun K hK=>?_
 (with_reducible refine (yN.o _ (HF.o.trans F4 nI) _ _ af sP).mono ?_)
 rintro _ V5 ⟨v5,rfl,fH,G5⟩;obtain⟨n5,cG⟩:=eX ((List.take i (List.map Rb.key xs)++[(x.d,x.p,List.filter (I8 h) x.es)]++List.drop (i+1) (List.map Rb.key xs)).length)
 obtain⟨a5,c5,rfl⟩:=fH.slice;rw[cG] at fH ⊢;clear cG;have F5:=F4.trans G5 nI;refine hK _ _ (F5.mono nE) ?_;clear hK K;refine rP fun K hK=>?_;obtain⟨y0,y1,y2,y3,y4,yz,yl⟩:=cells5 (HY _ F5);go_simp;have HE:=hid (show ∀ W',((((V5.setCell (aA (z+1) 0) (iI g)).setCell (aA (z+1) 1) (iI most)).setCell (aA (z+1) 2) (iI slots)).setCell (aA (z+1) 3) (sL a5 n5 c5)).setCell (aA (z+1) 4) (iI sp)=W'->Ex g most slots sp ok _ w _ W' from fun W' hW=>YD (show w.heap.size<z+1 by have:=HZ.o;omega) (HF.trans F5 nI) (HY _ F5) fH hW);refine hK _ _ ((F5.mono (S':=fun b=>b=z+1) nE).trans (S:=fun b=>b=z+1) (by with_reducible (repeat (first|exact fR|refine Fr.setCell ?_ (fun _=>by simp) _))) nI) ?_;clear hK K;refine oR ?_
 refine o5 ?_;refine NoPanic.normal ?_;try simp only[Act.put,sI,sZ,sS]
 clear F3 F4 Q5 F5 FD G5 ve af fH b4 O4;go_wp2_with fail
 refine bodyPost_ret (v:=tU #[ai g most slots (sL a5 n5 c5) sp,bO ok]) sR rfl ?_;rw[show (bS x.key.2.2 h).isSome=ok by rw[<- Er,xJ0];rfl];exact HE _ rfl
structure xV0 where
 g:Nat
 l:Lb
 sp:Int
 lost:Bool
def rep (l:Lb)(i:Nat)(m:Lb):Lb:=l.take i++m++l.drop (i+1)
def DG (es:List Bt):Nat:=match jw es es.length with
 | some k=>match es[k]? with
  | some x=>x.hash
  | none=>0
 | none=>0
def halves (b:Nat × Nat × List Bt)(es:List Bt):Lb:=[(b.1+1,2*b.2.1,es.filter (bN b.1 (2*b.2.1))),(b.1+1,2*b.2.1+1,es.filter (bN b.1 (2*b.2.1+1)))]
def jk:Nat->Nat->Lb->Int->Bt->Int->xV0
 | 0,g,l,sp,_,_=>⟨g,l,sp,false⟩
 | n+1,g,l,sp,y,o =>
  match l.findIdx? (R9 y.hash) with
  | none=>⟨g,l,sp,false⟩
  | some i =>
   match l[i]? with
   | none=>⟨g,l,sp,false⟩
   | some b =>
    let es:=aL b.2.2 y.hash o
    if cy es y.hash 3=true then ⟨g,rep l i [(b.1,b.2.1,r5 es y)],sp,false⟩
    else if b.1<3 then jk n (if b.1=g then g+1 else g) (rep l i (halves b es)) (sp+1) y o
    else ⟨g,rep l i [(b.1,b.2.1,r5 (es.filter (I8 (DG es))) y)],sp,true⟩
def Yc {n g:Nat}{y:Bt}{o:Int}(hi:l.findIdx? (R9 y.hash)=some i)(hb:l[i]?=some b):jk (n+1) g l sp y o =
  if cy (aL b.2.2 y.hash o) y.hash 3=true then ⟨g,rep l i [(b.1,b.2.1,r5 (aL b.2.2 y.hash o) y)],sp,false⟩
  else if b.1<3 then jk n (if b.1=g then g+1 else g) (rep l i (halves b (aL b.2.2 y.hash o))) (sp+1) y o
  else ⟨g,rep l i [(b.1,b.2.1,r5 ((aL b.2.2 y.hash o).filter (I8 (DG (aL b.2.2 y.hash o)))) y)],sp,true⟩:=by
 simp only[jk,hi,hb]
def Ia (h:m9 es)(f:Bt->Bool):m9 (es.filter f):=List.Pairwise.filter f h
def nS0 {k:Nat}(h:hasB es k=false)(f:Bt->Bool):hasB (es.filter f) k=false:=by
 unfold hasB at h ⊢;rw[DJ] at h ⊢;exact fun x hx=>h x (rn.1 hx).1
def Hq (b:Nat × Nat × List Bt):Prop:=b.1<=3/\b.2.1<2^b.1/\b.2.2.length<=60000/\m9 b.2.2/\∀ x ∈ b.2.2,x.hash<18446744073709551616
def tz0 (h:Hq b)(h3:b.1<3)(hl:es.length<=60000)(hs:m9 es)(hh:∀ x ∈ es,x.hash<18446744073709551616):∀ c ∈ halves b es,Hq c:=by
 have hp:2*b.2.1+1<2^(b.1+1):=by have:=h.2.1;rw[dB];omega
 intro c hc;rcases d9.1 hc with e|hc
 .subst e;exact⟨h3,by show 2*b.2.1<2^(b.1+1);omega,nT (mY _ _) hl,Ia hs _,fun x hx=>hh x (rn.1 hx).1⟩
 .rw[mZ] at hc;subst hc;exact⟨h3,hp,nT (mY _ _) hl,Ia hs _,fun x hx=>hh x (rn.1 hx).1⟩
def zN0 {c:Nat × Nat × List Bt}(h:c ∈ rep l i m):c ∈ l\/c ∈ m:=by
 unfold rep at h;rcases X5.1 h with h|h
 .rcases X5.1 h with h|h
  .exact .inl (ov h)
  .exact .inr h
 .exact .inl (xZ h)
def zO0 (h:i<l.length):(rep l i m).length+1=l.length+m.length:=by
 unfold rep;rw[lA,lA,lT,ed];omega
def up0 (hi:l.findIdx? (R9 h)=some i)(hj:m.findIdx? (R9 h)=some j):(rep l i m).findIdx? (R9 h)=some (i+j):=by
 have h1:=hi;rw[ox] at h1;obtain⟨a1,a2,a3⟩:=h1;have hn:(l.take i).findIdx? (R9 h)=none:=by
  rw[ud];intro x hx;obtain⟨k,hk,e⟩:=Qi hx;rw[lT] at hk;have:=a3 k oM;rw[<- e,List.getElem_take];simpa using this
 unfold rep;rw[dD,List.findIdx?_append,hn,List.findIdx?_append,hj];simp only[Option.or,Option.map];simp[lT];omega
def jU0 (es:List Bt)(hb:R9 h b=true)(h3:b.1<3)(hh:h<18446744073709551616):∃ j c,(halves b es).findIdx? (R9 h)=some j/\(halves b es)[j]?=some c/\c.1=b.1+1:=by
 have h1:X0 h b.1=b.2.1:=by simpa[R9] using hb
 have h2:=Iy (h:=h) (d:=b.1) oM hh;rcases Nat.mod_two_eq_zero_or_one (X0 h (b.1+1)) with e|e
 .refine⟨0,_,?_,rfl,rfl⟩;have:R9 h (b.1+1,2*b.2.1,es.filter (bN b.1 (2*b.2.1)))=true:=by unfold R9;exact decide_eq_true (by show X0 h (b.1+1)=2*b.2.1;omega)
  unfold halves;rw[ue,this];rfl
 .refine⟨1,_,?_,rfl,rfl⟩;have q1:R9 h (b.1+1,2*b.2.1,es.filter (bN b.1 (2*b.2.1)))=false:=by unfold R9;exact decide_eq_false (by show ¬ X0 h (b.1+1)=2*b.2.1;omega)
  have q2:R9 h (b.1+1,2*b.2.1+1,es.filter (bN b.1 (2*b.2.1+1)))=true:=by unfold R9;exact decide_eq_true (by show X0 h (b.1+1)=2*b.2.1+1;omega)
  unfold halves;rw[ue,q1,ue,q2];rfl
def yn0 {c:Nat × Nat × List Bt}(hi:i<=l.length)(hj:m[j]?=some c):(rep l i m)[i+j]?=some c:=by
 unfold rep;have:=getD_some hj;rw[dD,kN (by rw[lT];omega),lT,Nat.min_eq_left hi,Mm,jn this,hj]
