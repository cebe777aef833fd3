/- A pack of texts. Conditions: those that each names. -/
import Derived.Test.YtgdhaaokolfdoaaGreatDoorNAT
set_option maxHeartbeats 16000000
set_option maxRecDepth 100000
set_option linter.all false
namespace Go.Proofs.YtgdhaaokolfdoaaGreatDoor
open Go.RowKit Go.Sg Go.Sg.Bits Go.Sg.r4 CP SF Tryz
variable {W W6 w:w9}{B:P0}{y y0:Cs}{P:J2}{a:Bool}{M N b b1 base bd k len0 m per tc:Nat}{X:Nat->Prop}{rp:Int}{rest:List Nat}{K:Prop}{ta:Option Addr}
def wP (h:C1 w B y P a N):y.gen<9223372036854775808:=by
 obtain⟨x,c,hS,rfl,hi⟩:=h.ex;exact LY hS
def yw (all:List Rf)(per k:Nat):Nat->Option (List Int):=fun j=>if j<k then some (P3 (chunk all per j)) else none
structure us (w W:w9)(B:P0)(X:Nat->Prop)(y0:Cs)(P:J2)(a:Bool)(N:Nat)(rp:Int)(len0 per:Nat)(rest:List Nat)(M:Nat)(K:Prop)(c0:Cont)(all:List Rf)(b1 b:Nat)(ta:Option Addr)(tc:Nat)(tk:List Rf)(y:Cs)(k:Nat):Prop where
 st:C1 W B y P a (N+k)
 E0:kL y rp tk rest M K c0 (yw all per k)
 len:tk.length=max len0 k
 own:aq W b1 (sL ta tk.length tc) tk
 blk:∀ g,ta=some ⟨g,0,none⟩->g≠b/\(w.heap.size<=g\/X g)
 like:Like y0 y/\y.gen=y0.gen/\y.dead=y0.dead
 fr:O0 B X w W
variable {c0:Cont}{all tk:List Rf}{r:Rf}
def us.put {g:Nat}(h:us w W B X y0 P a N rp len0 per rest M K c0 all b1 b (some ⟨g,0,none⟩) tc tk y k)(X4:y0.pages<=2147483647)(E5:0<b1)
  (hr:tk[k]?=some r) (hm:kX y r.1.toNat m) (F:D0 B W W6) (hS:C1 W6 B (y.put r.1.toNat m (P3 (chunk all per k))) P a (N+k+1)) :
  us w ((W6.setCell (aA g (k*2)) (iI m)).setCell (aA g (k*2+1)) (iI y.gen)) B X y0 P a N rp len0 per rest M K c0 all b1 b (some ⟨g,0,none⟩) tc (tk.set k ((m:Int),(y.gen:Int))) (y.put r.1.toNat m (P3 (chunk all per k))) (k+1):=by
 have hk:=(gI.1 hr).1;have aB:aq W6 b1 (sL g tk.length tc) tk:=K3 h.own F fun g' c' I1 hs=>absurd (hs.2.1 c' 35 _ I1) dC;obtain⟨cD,cg,dK⟩:=O6 aB (g:=g) rfl;have dL:y.gen<9223372036854775808:=wP h.st;obtain⟨l1,l2,l3⟩:=EP y r.1.toNat m (P3 (chunk all per k));have fg:=Ye aB hk (m:Int) (y.gen:Int);refine⟨ud0 hS dK oM _ _,?_,?_,by unfold aq;rw[fj] at fg;rw[fj];exact fg,h.blk,⟨h.like.1.trans l1,l2.trans h.like.2.1,l3.trans h.like.2.2⟩,Xr (h.fr.trans (O0.of F)) (h.blk g rfl).2 _ _⟩
 .have ht:=pY0 h.E0 h.st.apart hr hm (by rw[h.like.1.pages];exact X4) dL (P3 (chunk all per k));have e:(fun j=>if j=k then some (P3 (chunk all per k)) else yw all per k j)=yw all per (k+1):=by
   funext j
   simp only[yw];by_cases e:j=k
   .subst e;rw[if_pos rfl,if_pos oM]
   .rw[if_neg e];by_cases hj:j<k
    .rw[if_pos hj,if_pos oM]
    .rw[if_neg hj,if_neg oM]
  rw[e] at ht;exact ht
 .rw[fj,h.len];have:=h.len;omega
def us.new {W7:w9}{ta':Option Addr}{qk:Nat}(h:us w W B X y0 P a N rp len0 per rest M K c0 all b1 b ta tc tk y k)(X4:y0.pages<=2147483647)(hk:len0<=k)
  (hm:dF y.taken y.pages y.hand m) (F:O0 B X w W7) (hS:C1 W7 B (y.new m (P3 (chunk all per k))) P a (N+k+1)) (A0:W7.ownsRow b1 35 2 (sL ta' (tk.length+1) qk) (tk.length+1) (tk.flatMap N7++[iI m,iI y.gen])) (Cw:∀ g,ta'=some ⟨g,0,none⟩->g≠b/\(w.heap.size<=g\/X g)) :
  us w W7 B X y0 P a N rp len0 per rest M K c0 all b1 b ta' qk (tk++[((m:Int),(y.gen:Int))]) (y.new m (P3 (chunk all per k))) (k+1):=by
 have dL:y.gen<9223372036854775808:=wP h.st;have hlen:tk.length=k:=by rw[h.len];omega
 refine⟨hS,?_,by rw[lA,h.len];simp;omega,?_,Cw,⟨h.like.1.trans ⟨rfl,rfl,rfl,rfl,rfl,rfl,rfl⟩,h.like.2⟩,F⟩
 .have ht:=wk0 h.E0 h.st.apart hm (by rw[h.like.1.pages];exact X4) dL (P3 (chunk all per k));have e:(fun j=>if j=tk.length then some (P3 (chunk all per k)) else if j<tk.length then yw all per k j else none)=yw all per (k+1):=by
   funext j
   simp only[yw,hlen];by_cases e:j=k
   .subst e;rw[if_pos rfl,if_pos oM]
   .rw[if_neg e];by_cases hj:j<k
    .rw[if_pos hj,if_pos hj,if_pos oM]
    .rw[if_neg hj,if_neg oM]
  rw[e] at ht;exact ht
 .have e1:(tk++[((m:Int),(y.gen:Int))]).length=tk.length+1:=by simp
  have e2:(tk++[((m:Int),(y.gen:Int))]).flatMap N7=tk.flatMap N7++[iI m,iI y.gen]:=by rw[dY];rfl
  show W7.ownsRow b1 35 2 _ (tk++[((m:Int),(y.gen:Int))]).length ((tk++[((m:Int),(y.gen:Int))]).flatMap N7);rw[e1,e2];exact A0
variable {x:P1}
def zj0 {yk:Cs}(hI:us w W B X y P a N x.rp len0 x.per rest M K c0 all b1 b ta tc tk yk x.leaves)(hz:kM y x)(hlen:len0<=x.leaves)(mI:all.length=x.slots)(Pj:∀ r ∈ all,bh r)
  (hm:kX yk x.rp.toNat m) (hS:C1 W6 B (yk.put x.rp.toNat m (P3 tk)) P a (N+x.leaves+1)) :
  ∃ (y':Cs),C1 W6 B y' P a (N+x.leaves+1)/\dH y' { x with rp:=m,rs:=y.gen } tk all/\Live y' (B2 m tk++rest) M/\(K->oX y' (B2 m tk++rest))/\(∀ k ∈ rest,y'.cont k=c0 k)/\(Like y y'/\y'.gen=y.gen/\y'.dead=y.dead):=by
 obtain⟨ht,hc⟩:=pT0 hI.E0 hI.st.apart hm (P3 tk);obtain⟨l1,l2,l3⟩:=EP yk x.rp.toNat m (P3 tk);have hL:=hI.like.1.trans l1;have r9:tk.length=x.leaves:=by rw[hI.len];omega
 refine⟨_,hS,⟨⟨hz.most,⟨hz.per.1,by rw[hL.room];exact hz.per.2⟩,fun d hd=>by rw[hL.room];exact hz.fits d hd,by rw[hL.room];exact hz.room⟩,mI,r9,⟨Pj,ht.right,fun i r hi=>?_⟩,⟨by simp,by simp⟩,?_⟩,ht.live,ht.calm,ht.keep,hL,l2.trans hI.like.2.1,l3.trans hI.like.2.2⟩
 .refine ht.cont i r _ hi ?_;have:=(gI.1 hi).1;simp only[yw];rw[if_pos oM]
 .rw[<- hI.like.2.1];simpa using hc
def tk0 (F:O0 B (fun b=>X b\/b=bd) w W)(u v:Value):O0 B (fun b=>X b\/b=bd) w ((W.setCell (aA bd 4) u).setCell (aA bd 5) v):=
 Fr.setCell (Fr.setCell F (fun _=>.inr (.inr rfl)) _) (fun _=>.inr (.inr rfl)) _
def Yi {s:Nat}(h:C1 w B y P a N)(hD:N2 w bd s x):0<bd:=by
 rcases Nat.eq_zero_or_pos bd with h0|h0
 .exfalso;subst h0;have h2:=h.tab 0 dC;have h3:=G0 hD 0;simp at h3;rw[h3] at h2;cases h2
 .exact h0
def qg0 {w':w9}(h:C5 w B y P N){e size n:Nat}{v:Value}{xs:List Value}(A0:w.ownsRow base e size v n xs)(he:e ∉ 5 :: aR)(hg:w.grownBy w' v.ownBlock):C5 w' B y P N:=by
 cases hv:v.ownBlock with
 | none =>
  rw[hv] at hg;exact h.J0 ⟨hg.os,hg.tape,hg.output,hg.size,fun b hb _=>hg.block b hb sP⟩
 | some g =>
  obtain⟨hb,c,hc⟩:=O6 A0 hv.symm;rw[hv] at hg;exact h.M3 (k:=g) ⟨hg.os,hg.tape,hg.output,hg.size,fun b hb hn=>hg.block b hb fun e=>hn (by cases e;rfl)⟩ hc he
def QO {W1:w9}{Y:Nat->Prop}(F1:Fq w W1)(F:O0 B X W1 W):O0 B (fun b=>X b\/Y b) w W:=
 ((O0.none F1).trans F).mono fun _ _ h=>h.imp id .inl
def yC0 (l:List Rf):∀ (i:Nat) (x:Rf),l[i]?=some x->(l.flatMap N7)[i*2]?=some (iI x.1)/\(l.flatMap N7)[i*2+1]?=some (iI x.2):=by
 induction l with
 | nil=>intro i x hx;simp at hx
 | cons y l ih =>
  intro i x hx;cases i with
  | zero=>simp at hx;subst hx;exact⟨rfl,rfl⟩
  | succ i =>
   rw[gS] at hx;have e:(i+1)*2=i*2+2:=oM
   rw[e];exact ih i x hx
def EV {c:Nat}{a:Option Addr}{l:List Rf}(h:aq w base (sL a l.length c) l)(hr:l[k]?=some r):∃ g,a=some ⟨g,0,none⟩/\g<w.heap.size/\w.cell? (aA g (k*2))=some (iI r.1)/\w.cell? (aA g (k*2+1))=some (iI r.2):=by
 obtain⟨f0,f1⟩:=yC0 l k r hr;obtain⟨g,e,hg,h1⟩:=d8 h f0;obtain⟨g',e',_,h2⟩:=d8 h f1;rw[e] at e';cases e';exact⟨g,e,hg,h1,h2⟩
def DH0 (B:P0)(X:Nat->Prop)(bd:Nat)(x:P1)(y:Cs)(P:J2)(a:Bool)(N:Nat)(rest:List Nat)(M:Nat)(K:Prop)(c0:Cont)(all:List Rf)(w:w9)(e:Ending)(w':w9):Prop:=
 ∃ err,e = rT (iI err)/\O0 B (fun b=>X b\/b=bd) w w'/\((err=0/\∃ (y':Cs) (tk:List Rf) (m:Nat),N2 w' bd B.s { x with rp:=m,rs:=y.gen }/\C1 w' B y' P a N/\dH y' { x with rp:=m,rs:=y.gen } tk all/\Live y' (B2 m tk++rest) M /\
  (K->oX y' (B2 m tk++rest))/\(∀ k ∈ rest,y'.cont k=c0 k)/\(Like y y'/\y'.gen=y.gen/\y'.dead=y.dead))\/(err=4/\a=true/\C5 w' B y P N))
def TD (h:0<x.per)(k:Nat):k<x.leaves↔k*x.per<x.slots:=by
 unfold P1.leaves;constructor
 .intro hk;have h2:(k+1)*x.per<=x.slots+x.per-1:=(Qh h).1 hk;rw[nb] at h2;omega
 .intro hk;refine (Qh h).2 ?_;rw[nb];omega
def Bf0 {P:D4}{off cc:Nat}{E0:List Rf}(h:C1 w B y P a N)(hD:N2 w bd B.s x)(hz:kM y x)(mW:0<=x.rs)(X4:y.pages<=2147483647)(hT:kL y x.rp E0 rest M K c0 fun _=>none)
  (hlen:E0.length<=x.leaves) (mI:all.length=x.slots) (Pj:∀ r ∈ all,bh r) (hM:1+x.leaves+rest.length+2*M<y.pages) (A0:aq w b1 (sL ta E0.length tc) E0) (E5:0<b1) (U1:b1<=w) (Y2:iq w (some ⟨b,off,none⟩) all) (hne:∀ g,ta=some ⟨g,0,none⟩->g≠b) (hcc:all.length<=cc) (hN:N+x.leaves+1<=90000) :
  cP 122 #[A7 bd,sL ta E0.length tc,sL (aP b off) all.length cc] w (DH0 B (fun b=>ta=some ⟨b,0,none⟩) bd x y P a (N+x.leaves+1) rest M K c0 all w):=by
 obtain⟨i0,A3,J1,M1,O1⟩:=info_parts eQ;have bY:=hz.ru;have eB:=hz.per.1;have X3:all.length<=1681:=by
  rw[mI];have h1:=hz.It;have h2:x.leaves*x.per<=41*41:=Nat.mul_le_mul bY.1 bY.2;omega
 have h0:0<w.heap.size:=by have:=h.base;have:=h.jr;omega
 have RH:=hid (sk0 (w:=w) (b:=b) (off:=off) (n:=all.length) (c:=cc) (per:=x.per) (m:=x.leaves) ⟨eB,oM⟩ oM hcc (fun k=>by rw[mI];exact TD eB k) oM);have HD:=hid hD;have HZ:=hi2 hz (aI mI (aI Pj mW));have HA:=hid Y2;have H0:=hi2 h (aI hT A0);obtain⟨m,hm⟩:=eX x.leaves
 have HM:=hid hm;rw[hm] at RH hN hM hlen ⊢;have hm41:m<=41:=oM
 obtain⟨c0',c1,c2,c3,c4,c5,cz,cl⟩:=z7 hD;have JB:b<w\/all=[]:=by
  cases all with
  | nil=>exact .inr rfl
  | cons z l=>obtain⟨b',o',e,hb,_⟩:=Y2.row.at_ 0 z rfl;cases e;exact .inl hb
 clear h hz hT A0 Y2 mI Pj hD hm;go_enter func122,ntmps122;go_wp2_with (go_at_call 184;refine RH.mono ?_)
 rintro e W1 ⟨v1,rfl,hch,F1⟩;have E1:=hid F1;obtain⟨va,vc,rfl,-⟩:=A2 hch;have HCH:=hid hch;have pw:us W1 W1 B (fun b=>ta=some ⟨b,0,none⟩) y P a N x.rp E0.length x.per rest M K c0 all b1 b ta tc E0 y 0:=
  ⟨H0.1.J0 F1,by have:=H0.2.1;exact⟨this.live,this.right,this.rr,fun j r bs hj hC=>by simp[yw] at hC,this.calm,this.keep⟩,by simp,K3 H0.2.2 F1 fun _ _ _ h=>h,fun g hg=>⟨hne g hg,.inr hg⟩,⟨Like.refl y,rfl,rfl⟩,O0.refl _ _ _⟩
 have uI:=hid pw;have qC:=hid (show N2 W1 bd B.s x from F1.heap HD id);have HA1:=hid (HA.J0 F1);clear hch F1 pw c0' c1 c2 c3 c4 c5 cz cl RH;go_wp2_with fail
 go_loopw [1,19] (fun tv i wr=>∃ (k:Nat) (ta':Option Addr) (qk:Nat) (tk:List Rf) (yk:Cs),k<=m/\i = iI k/\tv = sL ta' tk.length qk/\us W1 wr B (fun b=>ta=some ⟨b,0,none⟩) y P a N x.rp E0.length x.per rest M K c0 all b1 b ta' qk tk yk k) fun _ i _=>m-(intOf i).toNat
 case atStart=>exact⟨0,ta,tc,E0,y,C3 _,rfl,rfl,uI.o⟩
 case round =>
  obtain⟨k,ta',qk,tk,yk,hk,rfl,rfl,hI⟩:=hrel;have hF:=hI.fr;have HI:=hid hI;have gi:∀ g,ta=some ⟨g,0,none⟩->∃ c,W1.heap[g]?=some (.cells c 35):=fun g e=>(O6 uI.own (g:=g) (by rw[e];rfl)).2
  have hXd:¬ ta=some ⟨bd,0,none⟩:=fun e=>by
   obtain⟨c,hc⟩:=gi bd e;have:=qC.o;unfold N2 at this;rw[hc] at this;cases this
  have iK:=qC.frX hI.fr hXd;obtain⟨c0',c1,c2,c3,c4,c5,cz,cl⟩:=z7 iK;by_cases hlt:k<m
  .have hd:decide ((k:Int)<(m:Int))=true:=by simp;omega
   have O9:=K3 HCH hF (fun g c hg hs=>by
    rcases hs with hs|hs
    .exact absurd (hs.2.1 c 33 _ hg) dC
    .obtain⟨c',hc'⟩:=gi g hs;rw[hc'] at hg;cases hg)
   obtain⟨gv,rfl,Pv,hcv⟩:=d8 O9 (show ((List.range m).map (qN b off all.length x.per))[k]?=some (qN b off all.length x.per k) by simp[hlt]);have B6:(chunk all x.per k).length<=41:=by rw[sb];omega
   obtain⟨e,he⟩:=eX ((chunk all x.per k).length)
   have CJ:qN b off all.length x.per k = sL (aP b (off+k*x.per*2)) e e:=by
    rw[<- he,sb];rfl
   rw[CJ] at hcv;have hXb:∀ b' off',(some ⟨b,off,none⟩:Option Addr)=some ⟨b',off',none⟩->all≠[]->¬ ta=some ⟨b',0,none⟩:=fun b' off' e _ e'=>by
    cases e;exact hne b e' rfl
   have Um:=rm0 (HA1.frX hI.fr hXb) x.per k;have oQ:=hid fun W (F:Fq wr W)=>LP (c:=e) ((Um.J0 F).row) (Ty HZ.2.2.1 x.per k) he oM;have HE:=hid he;have KI:yk.pages=y.pages:=hI.like.1.pages;have mV:yk.room=y.room:=hI.like.1.room;have hlen':tk.length<=m:=by rw[hI.len];omega
   have P2:=hI.E0.live.free (by simp only[B2,lA,lC,Z8];omega);have IF:12*e<=y.room:=by
    have h1:=HZ.1.per.2;have h2:e<=x.per:=(by rw[<- he,sb];omega);omega
   have cF:(k:Int)<(m:Int):=oM
   have dE:=hid iK;by_cases iX:k<tk.length
   .obtain⟨r,hr⟩:∃ r,tk[k]?=some r:=⟨_,gE iX⟩
    have kA:decide ((k:Int)<(tk.length:Int))=true:=sO;obtain⟨fM,gr,pR,jd⟩:=hI.E0.page hr;obtain⟨r1,r2⟩:=r;obtain⟨pn,rfl⟩:=iZ (hI.E0.right _ (gM hr)).1;simp only[jK] at gr pR jd;obtain⟨g,rfl,hg,g0,g1⟩:=EV hI.own hr;simp only at g0 g1;have bz:∃ cg,wr.heap[g]?=some (.cells cg 35):=(O6 hI.own (g:=g) rfl).2
    have UY:¬ bd=g:=fun e=>by
     obtain⟨cg,ib⟩:=bz;unfold N2 at iK;rw[e,ib] at iK;cases iK
    have HG:=hid (fun W (F:D0 B wr W)=>show W.cell? (aA g (k*2))=wr.cell? (aA g (k*2))/\W.cell? (aA g (k*2+1))=wr.cell? (aA g (k*2+1))/\(∃ cg,W.heap[g]?=some (.cells cg 35)) by
     obtain⟨cg,ib⟩:=bz;have hn:¬ (B.base<=g/\Az B wr g):=fun hs=>absurd (hs.2.1 cg 35 _ ib) dC
     exact⟨Fr.cell F (p:=⟨g,_,none⟩) hg hn,Fr.cell F (p:=⟨g,_,none⟩) hg hn,⟨cg,D0.heap F ib dC⟩⟩)
    have HW:=hid (fun W la lc (F:Fq wr W) (hb:T0 W la (12*(chunk all x.per k).length) lc (P3 (chunk all x.per k)))=>LU (hI.st.J0 F) pn r2 (hb.inp B) (wS _) (by rw[mV,he];exact IF) gr pR jd P2 oM);have HR:=hid hr;have Ng:=hi2 g0 g1;have hki0:(k:Int)<(tk.length:Int):=oM;clear hI hF gi iK O9 Um he hr CJ fM KI mV gr pR jd P2 B6;go_wp2_with fail
    have hgbd':¬ g=bd:=fun e=>UY e.symm
    go_region_law (first
     | ((try go_simp);go_at_call 119;refine (oQ _ (by first|exact fR|exact fR.drew)).mono ?_;rintro _ W5 ⟨la,lc,rfl,hb,F5⟩;have Q6:Fq wr W5:=(by first|exact F5|exact (fR.drew).trans F5 nI);have g0:=(HG.o W5 (D0.none Q6)).1.trans Ng.1;have g1:=(HG.o W5 (D0.none Q6)).2.1.trans Ng.2;obtain⟨c0',c1,c2,c3,c4,c5,cz,cl⟩:=z7 (dE.T1 (D0.none (B:=B) Q6)))
     | ((try go_simp);go_at_call 26;refine (HW _ _ _ Q6 hb).mono ?_;rintro _ W6 ⟨p6,s6,err,rfl,F6,P8⟩;have C4:D0 B wr W6:=D0.trans (D0.none Q6) F6;have g0:=(HG.o W6 C4).1.trans Ng.1;have g1:=(HG.o W6 C4).2.1.trans Ng.2;obtain⟨cg,ib⟩:=(HG.o W6 C4).2.2;have gz:=fun o=>X2 ib o;have gl:=M0 ib))
    all_goals (
     rcases P8 with⟨rfl,m',rfl,rfl,O8,aS⟩|⟨rfl,ha,U0⟩
     .have hL:=us.put HI X4 E5 HR O8 C4 aS;have HL:=hid hL;clear O8 aS hL g0 g1 gz gl ib C4 F6 Q6 F5 hb c0' c1 c2 c3 c4 c5 cz cl;go_wp2_with fail
      go_roundw;case rel=>exact⟨k+1,_,_,_,_,hlt,by go_num,by rw[fj],HL.o⟩
      case measure=>exact wM
     .have hF6:=O0.trans HI.fr (O0.of C4);have HY:=hi2 ha (aI U0 (aI hF6 ib));clear ha U0 hF6 ib C4 F6 Q6 F5 hb c0' c1 c2 c3 c4 c5 cz cl;go_wp2_with fail
      go_ret;refine⟨4,rfl,QO E1 (Xr HY.2.2.1 (HI.blk g rfl).2 _ _),.inr ⟨rfl,HY.1,(ue0 (fD HY.2.1 HI.like.1) HY.2.2.2 _ _).mono oM⟩⟩)
   .have kA:decide ((k:Int)<(tk.length:Int))=false:=sO;have T6:E0.length<=k:=(by have:=hI.len;omega);obtain⟨Gc,xP⟩:=eX (wr.alloc (.cells #[iI 0,iI 0] 35))
    have TZ:Fq wr Gc:=(by rw[<- xP];exact fR.alloc _);have sY:Gc.heap[wr.heap.size]?=some (.cells #[iI 0,iI 0] 35):=(fB xP);have HW:=hid (fun W la lc (F:Fq wr W) (hb:T0 W la (12*(chunk all x.per k).length) lc (P3 (chunk all x.per k)))=>FY (hI.st.J0 F) (hb.inp B) (wS _) (by rw[mV,he];exact IF) P2 oM);have GJ:=hid TZ;have RA:=hid sY;have Ho:=hid xP;have BY:N2 Gc bd B.s x:=TZ.heap iK id;have GE:=hid BY;have cY:¬ bd=wr.heap.size:=oM;have hbb':¬ wr.heap.size=bd:=oM;have hszl:=M0 sY;clear hI hF gi iK O9 Um he CJ KI mV P2 B6 TZ sY xP c0' c1 c2 c3 c4 c5 cz cl;obtain⟨c0',c1,c2,c3,c4,c5,cz,cl⟩:=z7 BY;clear BY;go_upto_region 8 with fail
    rw[Ho];go_region_held3 (fun W=>W.cell? bd=some (pO (aP B.s 0))) (go_keep) (first
     | (go_at_call 119;refine (oQ _ (by first|exact GJ.o|exact GJ.drew)).mono ?_;rintro _ W5 ⟨la,lc,rfl,hb,F5⟩;have Q6:Fq Gc W5:=(by first|exact F5|exact (fR.drew).trans F5 nI);obtain⟨c0',c1,c2,c3,c4,c5,cz,cl⟩:=z7 (GE.T1 (D0.none (B:=B) Q6)))
     | (go_at_call 22;refine (HW _ _ _ (GJ.trans Q6 nI) hb).mono ?_;rintro _ W6 ⟨p6,s6,err,rfl,F6,P8⟩;have C4:D0 B Gc W6:=D0.trans (D0.none Q6) F6;have U3:=D0.heap C4 RA dC;obtain⟨g0,g1,gz,gl⟩:=cells2 U3;obtain⟨c0',c1,c2,c3,c4,c5,cz,cl⟩:=z7 (GE.T1 C4)))
    obtain⟨W7,mH⟩:=eX ((W6.setCell wr (iI p6)).setCell (aA wr 1) (iI s6))
    rw[mH];have UU:Fr (fun b=>b=wr.heap.size) W6 W7:=(by rw[<- mH];exact DE _ _);have b7:W7.heap[wr.heap.size]?=some (.cells #[iI p6,iI s6] 35):=by
     rw[<- mH,hsc _ _ _ _ (hsc _ _ _ _ U3)];rfl
    have Ca:O0 B (fun b=>ta=some ⟨b,0,none⟩) W1 W7:=by
     rw[<- mH];exact Xr (O0.trans HI.fr (O0.trans (O0.none GJ.o) (O0.of C4))) (.inl HI.fr.size) _ _
    have KB:∀ g,some g=(sL ta' tk.length qk).ownBlock->g<wr.heap.size:=fun g e=>by
     obtain⟨_,c,hc⟩:=O6 HI.own e;exact M0 hc
    have zT:aq W7 b1 (sL ta' tk.length qk) tk:=by
     have h1:aq Gc b1 (sL ta' tk.length qk) tk:=K3 HI.own GJ fun _ _ _ h=>h;have h2:aq W6 b1 (sL ta' tk.length qk) tk:=K3 h1 C4 fun g' c' I1 hs=>absurd (hs.2.1 c' 35 _ I1) dC;obtain⟨hl,IE|⟨g',cap,cur,hv,P4,I1,r⟩⟩:=h2
     .exact⟨hl,.inl IE⟩
     .exact⟨hl,.inr ⟨g',cap,cur,hv,P4,UU.heap I1 (by have:=KB g' (by rw[hv];rfl);omega),r⟩⟩
    have hb1':b1<=W7:=nT U1 (nT E1.size Ca.size);obtain⟨d0,d1,dz,dl⟩:=cells2 b7;have lZ:=hi2 zT (aI Ca (aI UU U3));have oT:=hid P8;have hszz:wr.heap.size<W7.heap.size:=dl;clear mH b7 Ca zT UU U3 P8 g0 g1 gz gl c0' c1 c2 c3 c4 c5 cz cl C4 F6 Q6 F5 hb;go_wp2_with (at_builtin;refine wpList_append_own_at _ rfl (.tmp 55) (.tmp 57) 33 rfl b1 35 i0 _ 2 16 underlying33 A3 J1 M1 O1 rfl dC _ _ _ rfl (lZ.1.alloc _) ⟨W7,0,none⟩ 1 1 [iI p6,iI s6] rfl rfl (World.news_of_block (cs:=#[iI p6,iI s6]) (t:=35) (fr:=(0,0)) (han _ _)) (by simp[Value.oneCell']) (by simp only[maxLen];omega) oM sO ?_)
    intro v8 W8 ij nX tF xi;have hF8:O0 B (fun b=>ta=some ⟨b,0,none⟩) W1 W8:=by
     refine Fr.trans (S':=fun b=>some b=(sL ta' tk.length qk).ownBlock) ((lZ.2.1).alloc (.cells #[iI p6,iI s6] 35)) ⟨nX.os,nX.tape,nX.output,nX.size,fun b hb hn=>nX.block b hb hn⟩ fun b hb e=>?_;obtain⟨g',-,I1⟩:∃ g':Nat,g'=b/\ta'=some ⟨b,0,none⟩:=⟨b,rfl,by
      obtain⟨_,⟨h0,_⟩|⟨g'',cap,cur,hv,_⟩⟩:=HI.own
      .rw[h0] at e;simp[Value.ownBlock] at e
      .rw[hv] at e;simp[Value.ownBlock] at e;subst e;cases hv;rfl⟩
     rcases (HI.blk b I1).2 with h|h
     .omega
     .exact .inr h
    obtain⟨ta8,tc8,rfl,-⟩:=A2 ij;have zL:∀ g,ta8=some ⟨g,0,none⟩->g≠b/\(W1.heap.size<=g\/ta=some ⟨g,0,none⟩):=fun g e=>by
     rcases xi with h|h
     .rw[e] at h;have hta:ta'=some ⟨g,0,none⟩:=by
       obtain⟨_,⟨h0,_⟩|⟨g'',cap,cur,hv,_⟩⟩:=HI.own
       .rw[h0] at h;simp[Value.ownBlock] at h
       .rw[hv] at h;simp[Value.ownBlock] at h;subst h;cases hv;rfl
      exact HI.blk g hta
     .rw[e] at h;simp[Value.ownBlock] at h;have h1:=HI.fr.size;refine⟨fun e'=>?_,.inl oM⟩;rcases JB with P4|P4
      .have:=E1.size;omega
      .have h3:=HZ.2.1;have h2:0<x.slots:=iu dC;have h4:all.length=0:=(by rw[P4];rfl);omega
    have H8:=hi2 ij (aI hF8 zL);have dM:=hid nX;clear ij hF8 zL nX tF xi d0 d1 dz dl;rcases oT.o with⟨rfl,m',rfl,rfl,O8,aS⟩|⟨rfl,ha,U0⟩
    .have lq:C1 W7 B (yk.new m' (P3 (chunk all x.per k))) P a (N+k+1):=aS.M3 lZ.2.2.1 lZ.2.2.2 dC oM;have Jj:=(lq.J0 ((Fr.refl (fun _=>False) W7).alloc (.cells #[iI m',iI yk.gen] 35))).Yn (lZ.1.alloc _) dC E5 dM.o;have HL:=hid (us.new HI X4 T6 O8 H8.2.1 Jj H8.1 H8.2.2);clear O8 aS lq Jj;go_wp2_with fail
     go_roundw;case rel=>exact⟨k+1,_,_,_,_,hlt,by go_num,by rw[lA];rfl,HL.o⟩
     case measure=>exact wM
    .have hD7:C5 W7 B yk P (N+k+1):=U0.M3 lZ.2.2.1 lZ.2.2.2 dC;have hD8:=qg0 (hD7.J0 ((Fr.refl (fun _=>False) W7).alloc (.cells #[iI p6,iI s6] 35))) (lZ.1.alloc _) dC dM.o;have HY:=hi2 ha hD8;clear ha U0 hD7 hD8;go_wp2_with fail
     go_ret;exact⟨4,rfl,QO E1 H8.2.1,.inr ⟨rfl,HY.1,(fD HY.2 HI.like.1).mono oM⟩⟩
  .obtain rfl:k=m:=by omega
   have hd:decide ((k:Int)<(k:Int))=false:=by simp
   obtain⟨fM,gr,pR,jd⟩:=hI.E0.YY;have r9:tk.length=k:=by rw[hI.len];omega
   obtain⟨ta2,tc2,Lj,hTT⟩:=uQ hI.own;obtain⟨rfl,rfl⟩:ta'=ta2/\qk=tc2:=by cases Lj;exact⟨rfl,rfl⟩
   clear Lj;have P2:=hI.E0.live.free (by have h1:yk.pages=y.pages:=hI.like.1.pages;simp only[B2,lA,lC,Z8];omega);have zk:12*tk.length<=yk.room:=by
    have h1:yk.room=y.room:=hI.like.1.room;have h2:=HZ.1.leaves;rw[h1,r9,<- HM];exact h2
   have oQ:=hid fun W (F:Fq wr W)=>LP (c:=qk) ((hTT.J0 F).row) hI.E0.right rfl oM;have HW:=hid (fun W la lc (F:Fq wr W) (hb:T0 W la (12*tk.length) lc (P3 tk))=>show cP 26 #[B.ptr,cV x.rp x.rs,sL la (12*tk.length) lc] W (Yl B yk P a (N+k) x.rp.toNat (P3 tk) W) by
    have:=LU (hI.st.J0 F) x.rp.toNat x.rs (hb.inp B) (wS _) zk gr pR jd P2 oM;rw[<- fM] at this;exact this)
   have dE:=hid iK;clear hI hF gi iK fM gr pR jd r9 hTT P2 zk;go_wp2_with fail
   go_region_law (first
    | ((try go_simp);go_at_call 119;refine (oQ _ (by first|exact fR|exact fR.drew)).mono ?_;rintro _ W5 ⟨la,lc,rfl,hb,F5⟩;have Q6:Fq wr W5:=(by first|exact F5|exact (fR.drew).trans F5 nI);obtain⟨c0',c1,c2,c3,c4,c5,cz,cl⟩:=z7 (dE.T1 (D0.none (B:=B) Q6)))
    | ((try go_simp);go_at_call 26;refine (HW _ _ _ Q6 hb).mono ?_;rintro _ W6 ⟨p6,s6,err,rfl,F6,P8⟩;have C4:D0 B wr W6:=D0.trans (D0.none Q6) F6;have j8:=dE.T1 C4;obtain⟨c0',c1,c2,c3,c4,c5,cz,cl⟩:=z7 j8))
   all_goals (
    rcases P8 with⟨rfl,m',rfl,rfl,O8,aS⟩|⟨rfl,ha,U0⟩
    .have hE:=zj0 (W6:=W6) (x:=x) (len0:=E0.length) (by rw[HM];exact HI.o) HZ.1 (by rw[HM];exact hlen) HZ.2.1 HZ.2.2.1 O8 (by rw[HM];exact aS);rw[HM] at hE;have vh:N2 ((W6.setCell (aA bd 4) (iI m')).setCell (aA bd 5) (iI yk.gen)) bd B.s { x with rp:=m',rs:=y.gen }:=by
      rw[<- HI.like.2.1];exact XH j8 _ _
     have CO:=tk0 (X:=fun b=>ta=some ⟨b,0,none⟩) (bd:=bd) (QO (Y:=fun b=>b=bd) E1 (O0.trans HI.fr (O0.of C4))) (iI m') (iI yk.gen);have H9:=hi2 hE (aI vh (aI CO j8));clear O8 aS hE vh CO j8 C4 F6 Q6 F5 hb c0' c1 c2 c3 c4 c5 cz cl;go_wp2_with fail
     go_ret;obtain⟨⟨y',e1,e2⟩,vh,CO,j8⟩:=H9.o;exact⟨0,rfl,CO,.inl ⟨rfl,y',tk,m',vh,WG e1 j8 (by have:=H0.1.base;have:=HD.o;exact Yi H0.1 HD.o) _ _,e2⟩⟩
    .have CO:=tk0 (X:=fun b=>ta=some ⟨b,0,none⟩) (bd:=bd) (QO (Y:=fun b=>b=bd) E1 (O0.trans HI.fr (O0.of C4))) (iI p6) (iI s6);have H9:=hi2 ha (aI U0 (aI CO j8));clear ha U0 CO j8 C4 F6 Q6 F5 hb c0' c1 c2 c3 c4 c5 cz cl;go_wp2_with fail
     go_ret;exact⟨4,rfl,H9.2.2.1,.inr ⟨rfl,H9.1,Tx (fD H9.2.1 HI.like.1) H9.2.2.2 _ _⟩⟩)
