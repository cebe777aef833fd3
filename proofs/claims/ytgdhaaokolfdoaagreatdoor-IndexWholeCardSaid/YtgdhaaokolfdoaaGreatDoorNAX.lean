/- A pack of texts. Conditions: those that each names. -/
import Derived.Test.YtgdhaaokolfdoaaGreatDoorNAW
import Derived.StillTailTactics
set_option maxHeartbeats 16000000
set_option maxRecDepth 100000
set_option linter.all false
namespace Go.Proofs.YtgdhaaokolfdoaaGreatDoor
open Tryz
section
open Go.RowKit Go.Sg Go.Sg.Bits Go.Sg.r4 CP SF
end
section
open Go.RowKit Go.Sg Go.Sg.Bits Go.Sg.r4 Go.Shelf CP SF
variable {W W6 w w':w9}{B:P0}{y y0:Cs}{P:J2}{a:Bool}{B0 D M N N1 b6 bd D5 bs c k k7 m n nt tc:Nat}{rest:List Nat}{K:Prop}{sv:Value}
def C1.lt (h:C1 w B y P a N)(r:r8):B.at_ r<w:=by
 obtain⟨x,c,hS,rfl,hi⟩:=h.ex;exact (hS.heaps r).2.2.1
def C1.my (h:C1 w B y P a N)(F:Fr (fun b=>b=k) w w')(h1:∀ r,¬ B.at_ r=k)(h0:0<k)(hk:∀ cs t f,w.heap[k]?≠some (.cells cs t f)):C1 w' B y P a N:=by
 obtain⟨⟨x,c,hS,hy,hi⟩,ht,hb⟩:=h;exact⟨⟨x,c,hS.my F h1 fun cs t=>hk cs t _,hy,{ hi with holds:=hi.holds.my F hk }⟩,ht.fr F fun e=>oM,hb⟩
def C5.my (h:C5 w B y P N)(F:Fr (fun b=>b=k) w w')(hd:B.d≠k/\B.bf≠k/\B.bq≠k)(hk:∀ cs t f,w.heap[k]?≠some (.cells cs t f)):C5 w' B y P N:=by
 obtain⟨D,h1,h2⟩:=h.ex;exact⟨D,h1.fr F hd.1 hd.2.1 hd.2.2 (fun g c t _ hg e=>by rw[e] at hg;exact hk _ _ _ hg),h2⟩
structure Ge (w W:w9)(B:P0)(bd:Nat)(x:P1)(y0:Cs)(P:J2)(a:Bool)(N:Nat)(rest:List Nat)(M:Nat)(K:Prop)(c0:Cont)(slots:List Rf)(r:Rf)(ta:Option Addr)(nt tc k7 bs D5:Nat)(sv:Value)(Ls:List Int)(k:Nat):Prop where
 b3:W.heap[w.heap.size]?=some (.cells #[A7 bd] 83)
 b5:W.heap[w.heap.size+1]?=some (.cells #[iI r.1,iI r.2] 35)
 b6:W.heap[w.heap.size+2]?=some (.cells #[iI 0] 24)
 b7:W.heap[k7]?=some (.cells #[sL ta nt tc] 33)
 EC:W.heap[bs]?=some (.cells #[sv] 52)
 gW:W.heap[D5]?=some (.cells #[A7 bd] 83)
 dir:N2 W bd B.s x
 ex:∃ (y:Cs) (tk:List Rf),tk.length=nt/\C1 W B y P a (N+k)/\Gd y x.rp tk rest M K c0 x.per (R4 slots (Ls.map Int.toNat) r)/\W.ownsRow (w.heap.size+3) 35 2 (sL ta nt tc) nt (tk.flatMap N7)/\(Like y0 y/\y.gen=y0.gen/\y.dead=y0.dead)
 fr:D0 B w W
structure Zr (w W:w9)(B:P0)(y0:Cs)(P:J2)(a:Bool)(N k:Nat):Prop where
 b6:W.heap[w.heap.size+2]?=some (.cells #[iI 4] 24)
 ex:C5 W B y0 P (N+k)
 fr:D0 B w W
 arm:a=true
def uu {W':w9}(h:D0 B w W)(F:Fr (fun b=>b=k) W W')(hk:w<=k):D0 B w W':=
 Fr.trans h F fun b hb e=>by omega
variable {x:P1}{c0:Cont}{sl slots tk E0:List Rf}{r:Rf}
def xx0 {ta:Option Addr}(hw:w<=B0)(hlt:∀ r,B.at_ r<w.heap.size)(h0:0<w.heap.size) :
   OwnFrom B0 (fun (pre:List oF) W=>Ge w W B bd x y0 P a N rest M K c0 slots r ta nt tc k7 bs D5 sv (pre.flatMap (·.part)) (2*pre.length)):=
 zh (fun pre W W' h F=>by
   obtain⟨y,tk,e1,e2,e3,e4,e5⟩:=h.ex;exact⟨F.heap h.b3 id,F.heap h.b5 id,F.heap h.b6 id,F.heap h.b7 id,F.heap h.EC id,F.heap h.gW id,F.heap h.dir id,⟨y,tk,e1,e2.J0 F,e3,K3 e4 F fun _ _ _ h=>h,e5⟩,h.fr.trans (D0.none F)⟩)
  (fun pre W W' k h F hk hc=>by
   have n1:∀ b cs t f,W.heap[b]?=some (.cells cs t f)->¬ b=k:=fun b cs t f hb e=>by rw[e] at hb;exact hc _ _ _ hb
   obtain⟨y,tk,e1,e2,e3,e4,e5⟩:=h.ex;exact⟨F.heap h.b3 (n1 _ _ _ _ h.b3),F.heap h.b5 (n1 _ _ _ _ h.b5),F.heap h.b6 (n1 _ _ _ _ h.b6),F.heap h.b7 (n1 _ _ _ _ h.b7),F.heap h.EC (n1 _ _ _ _ h.EC),F.heap h.gW (n1 _ _ _ _ h.gW),F.heap h.dir (n1 _ _ _ _ h.dir),
    ⟨y,tk,e1,e2.my F (fun r e=>by have:=hlt r;omega) oM hc,e3,K3 e4 F fun g c hg e=>n1 _ _ _ _ hg e,e5⟩,uu h.fr F oM⟩)
def xw0 (hw:w<=B0)(hlt:∀ r,B.at_ r<w.heap.size) :
   OwnFrom B0 (fun (pre:List oF) W=>Zr w W B y0 P a N (2*pre.length)):=
 zh (fun pre W W' h F=>⟨F.heap h.b6 id,h.ex.J0 F,h.fr.trans (D0.none F),h.arm⟩)
  (fun pre W W' k h F hk hc=>by
   have n1:∀ b cs t f,W.heap[b]?=some (.cells cs t f)->¬ b=k:=fun b cs t f hb e=>by rw[e] at hb;exact hc _ _ _ hb
   have l1:=hlt .d;have l2:=hlt .bf;have l3:=hlt .bq;simp only[P0.at_] at l1 l2 l3;exact⟨F.heap h.b6 (n1 _ _ _ _ h.b6),h.ex.my F ⟨oM,oM,oM⟩ hc,uu h.fr F oM,h.arm⟩)
def LG {R:Ending->World->Prop}{tmps:Array Value}{DD br:Nat}{v:Int}(q:W.heap[br]?=some (.cells #[iI v] 24))
  (hK:W.heap[DD]?=some (.deferred (some []))) (hD:br<DD) (hR:R (rT (iI v)) (W.putObj DD (.deferred none))) (t6:tmps.getD 6 undef = pO br) :
  bodyPostM Fence.wide n prog Tryz.f50 R .ret { tmps:=tmps,defers:=[{ target:=.collected DD,args:=#[] }] } W:=by
 have e1:(W.putObj DD (.deferred none)).cell? br=some (iI v):=by
  have:=G0 ((aC W DD (.deferred none) br oM).trans q) 0;simpa using this
 refine⟨by simp,.inl ⟨_,_,rfl,run_takeDeferred hK,_,?_,hR⟩⟩;rw[Mk] at t6;simp[results,Tryz.results50,go_sem,t6,e1]
def mT0 {g:Nat}{Ls:List Int}
  (hI:Ge w W B bd x y0 P a N rest M K c0 slots r (some ⟨g,0,none⟩) nt tc k7 bs D5 sv Ls k) (Z3:tk.length=nt) (hSt:C1 W B y P a (N+k)) (O5:Gd y x.rp tk rest M K c0 x.per (R4 slots (Ls.map Int.toNat) r))
  (A0:W.ownsRow (w.heap.size+3) 35 2 (sL g nt tc) nt (tk.flatMap N7)) (A1:Like y0 y/\y.gen=y0.gen/\y.dead=y0.dead) (je:0<x.per) (X4:y0.pages<=2147483647) {i:Nat} {q:Rf} (hi:tk[i]?=some q) (hm:kX y q.1.toNat m)
  {part:List Int} (hL:∀ z ∈ part,∃ k:Nat,z=k/\k/x.per=i) (F:D0 B W W6) (hS:C1 W6 B (y.put q.1.toNat m (P3 (R4 (chunk (R4 slots (Ls.map Int.toNat) r) x.per i) ((part.map Int.toNat).map (· % x.per)) r))) P a (N+k+2)) :
  Ge w ((W6.setCell (aA g (i*2)) (iI m)).setCell (aA g (i*2+1)) (iI y.gen)) B bd x y0 P a N rest M K c0 slots r (some ⟨g,0,none⟩) nt tc k7 bs D5 sv (Ls++part) (k+2):=by
 subst Z3;have hk:=(gI.1 hi).1;have aB:aq W6 (w.heap.size+3) (sL g tk.length tc) tk:=K3 A0 F fun g' c' I1 hs=>absurd (hs.2.1 c' 35 _ I1) dC;obtain⟨cD,cg,dK⟩:=O6 aB (g:=g) rfl;have dL:y.gen<9223372036854775808:=wP hSt;obtain⟨l1,l2,l3⟩:=EP y q.1.toNat m (P3 (R4 (chunk (R4 slots (Ls.map Int.toNat) r) x.per i) ((part.map Int.toNat).map (· % x.per)) r));have fg:=Ye aB hk (m:Int) (y.gen:Int);have hF2:Fr (fun b=>b=g) W6 ((W6.setCell (aA g (i*2)) (iI m)).setCell (aA g (i*2+1)) (iI y.gen)):=DE _ _;have kp:∀ (b:Nat) cs t,W.heap[b]?=some (.cells cs t)->t ∉ aR->(t≠35\/b<w.heap.size+3)->((W6.setCell (aA g (i*2)) (iI m)).setCell (aA g (i*2+1)) (iI y.gen)).heap[b]?=some (.cells cs t):=fun b cs t hb ht ho=>by
  have h6:=F.heap hb ht;refine hF2.heap h6 fun e=>?_
  subst e;rw[dK] at h6;cases h6;rcases ho with h|h
  .exact h rfl
  .omega
 refine⟨kp _ _ _ hI.b3 dC (.inl dC),kp _ _ _ hI.b5 dC (.inr oM),kp _ _ _ hI.b6 dC (.inl dC),kp _ _ _ hI.b7 dC (.inl dC),kp _ _ _ hI.EC dC (.inl dC),kp _ _ _ hI.gW dC (.inl dC),
  kp _ _ _ hI.dir dC (.inl dC),⟨_,tk.set i ((m:Int),(y.gen:Int)),by rw[fj],ud0 hS dK oM _ _,?_,?_,⟨A1.1.trans l1,l2.trans A1.2.1,l3.trans A1.2.2⟩⟩,?_⟩
 .have ht:=xy0 O5 hSt.apart je hi hm (by rw[A1.1.pages];exact X4) dL (L:=part.map Int.toNat) (fun n hn=>by
   obtain⟨z,hz,rfl⟩:=N4.1 hn;obtain⟨k,rfl,hk⟩:=hL z hz;simpa using hk) r
  rw[B9,iF0];exact ht
 .rw[fj] at fg;exact fg
 .have Fh:w<=g:=by omega
  refine Fr.setCell ?_ (fun h=>absurd h (vI.2 Fh)) _;refine Fr.setCell ?_ (fun h=>absurd h (vI.2 Fh)) _;exact D0.trans hI.fr F
def pv0 {W W6:w9}{B:P0}{bs D5 bd g i m n:Nat}{sv:Value}{dv:Value}{x:P1}{s:Nat}{cg:Array Value}(F:D0 B W W6)(dK:W6.heap[g]?=some (.cells cg 35))(U1:W.heap[bs]?=some (.cells #[sv] 52))(zI:W.heap[D5]?=some (.cells #[dv] 83))(hD:N2 W bd s x)(u v:Value) :
  iF bs D5 bd W ((W6.setCell (aA g m) u).setCell (aA g n) v):=by
 have hF2:Fr (fun b=>b=g) W6 ((W6.setCell (aA g m) u).setCell (aA g n) v):=DE _ _;have kp:∀ (b:Nat) cs t f,W.heap[b]?=some (.cells cs t f)->t ∉ aR->t≠35->((W6.setCell (aA g m) u).setCell (aA g n) v).heap[b]?=some (.cells cs t f):=fun b cs t f hb ht ho=>by
  have h6:=F.heap hb ht;refine hF2.heap h6 fun e=>?_
  subst e;rw[dK] at h6;cases h6;exact ho rfl
 have h1:=kp _ _ _ _ U1 dC dC;have h2:=kp _ _ _ _ zI dC dC;have h3:=kp _ _ _ _ hD dC dC;exact⟨fun g' c f hg=>kp _ _ _ _ hg dC dC,h1.trans U1.symm,h2.trans zI.symm,fun i=>by rw[G0 h3,G0 hD]⟩
def EF {s:Nat}{u v e:Value}(hF:D0 B w W6)(j8:N2 W6 bd s x)(R1:W6.heap[b6]?=some (.cells #[iI 0] 24))(hK:W6.heap[D]?=some (.deferred (some [])))(hb:w<=b6)(IL:w<=D)(iR:bd<w) :
  (((W6.setCell (aA bd 4) u).setCell (aA bd 5) v).setCell b6 e).heap[b6]?=some (.cells #[e] 24)/\(((W6.setCell (aA bd 4) u).setCell (aA bd 5) v).setCell b6 e).heap[D]?=some (.deferred (some [])) /\
  O0 B (fun b=>b=bd) w ((((W6.setCell (aA bd 4) u).setCell (aA bd 5) v).setCell b6 e).putObj D (.deferred none))/\Fr (fun b=>b=b6) ((W6.setCell (aA bd 4) u).setCell (aA bd 5) v) (((W6.setCell (aA bd 4) u).setCell (aA bd 5) v).setCell b6 e) /\
  ((W6.setCell (aA bd 4) u).setCell (aA bd 5) v).heap[b6]?=some (.cells #[iI 0] 24):=by
 have n6:¬ b6=bd:=oM
 have nD:¬ D=bd:=oM
 have n6D:¬ D=b6:=fun h=>by rw[h,R1] at hK;cases hK
 have F1:=Xc (W:=W6) (k:=bd) u v;have h6:=F1.heap R1 n6;have hd:=F1.heap hK nD;have F2:Fr (fun b=>b=b6) ((W6.setCell (aA bd 4) u).setCell (aA bd 5) v) (((W6.setCell (aA bd 4) u).setCell (aA bd 5) v).setCell b6 e):=Fr.setCell (S:=fun b=>b=b6) fR (fun _=>rfl) _;refine⟨by rw[hsc _ _ _ _ h6];rfl,F2.heap hd n6D,?_,F2,h6⟩;refine Fr.putObj ?_ (fun h=>absurd h (vI.2 IL)) _;refine Fr.setCell ?_ (fun h=>absurd h (vI.2 hb)) _;refine Fr.setCell ?_ (fun _=>.inr rfl) _;refine Fr.setCell ?_ (fun _=>.inr rfl) _;exact O0.of hF
def uZ0 {y' yx:Cs}(hF:D0 B w W6)(j8:N2 W6 bd B.s x)(R1:W6.heap[b6]?=some (.cells #[iI 0] 24))(hK:W6.heap[D]?=some (.deferred (some [])))(hb:w<=b6)(IL:w<=D)(iR:bd<w)(h0:0<bd)(hlt:∀ r,B.at_ r<w.heap.size)
  (hS:C1 W6 B yx P a N1) (hN:N1<=N) (h9:N<=90000) (hg:y'.gen=y.gen) (hE:dH yx { x with rp:=m,rs:=y'.gen } tk sl/\Live yx (B2 m tk++rest) M/\(K->oX yx (B2 m tk++rest))/\(∀ k ∈ rest,yx.cont k=c0 k)/\(Like y yx/\yx.gen=y.gen/\yx.dead=y.dead)) :
  Gf B bd x y P a N rest M K c0 sl w (rT (iI 0)) ((((W6.setCell (aA bd 4) (iI m)).setCell (aA bd 5) (iI y'.gen)).setCell b6 (iI 0)).putObj D (.deferred none)):=by
 obtain⟨f1,f2,f3,f4,f5⟩:=EF (u:=iI m) (v:=iI y'.gen) (e:=iI 0) hF j8 R1 hK hb IL iR;have FP:Fr (fun b=>b=D) (((W6.setCell (aA bd 4) (iI m)).setCell (aA bd 5) (iI y'.gen)).setCell b6 (iI 0)) ((((W6.setCell (aA bd 4) (iI m)).setCell (aA bd 5) (iI y'.gen)).setCell b6 (iI 0)).putObj D (.deferred none)):=(Fr.refl (fun b=>b=D) _).putObj (fun _=>rfl) _;rw[hg] at hE;rw[hg] at f1 f2 f3 f4 f5 FP ⊢;have hd:=XH j8 (m:Int) (y.gen:Int);have s9:=WG hS j8 h0 (iI m) (iI y.gen);have s10:=s9.M3 f4 f5 dC oM;have s11:=s10.my FP (fun r e=>by have:=hlt r;omega) oM (fun cs t f e=>by rw[f2] at e;cases e);have UM:N2 ((((W6.setCell (aA bd 4) (iI m)).setCell (aA bd 5) (iI y.gen)).setCell b6 (iI 0)).putObj D (.deferred none)) bd B.s { x with rp:=m,rs:=y.gen }:=
  FP.heap (f4.heap hd oM) oM
 exact⟨0,rfl,f3,.inl ⟨rfl,yx,tk,m,UM,s11.mono hN h9,hE⟩⟩
def ge0 {p s:Int}(hF:D0 B w W6)(j8:N2 W6 bd B.s x)(R1:W6.heap[b6]?=some (.cells #[iI 0] 24))(hK:W6.heap[D]?=some (.deferred (some [])))(hb:w<=b6)(IL:w<=D)(iR:bd<w)(hlt:∀ r,B.at_ r<w.heap.size)
  (hS:C5 W6 B y P N1) (hN:N1<=N) (ha:a=true) :
  Gf B bd x y P a N rest M K c0 sl w (rT (iI 4)) ((((W6.setCell (aA bd 4) (iI p)).setCell (aA bd 5) (iI s)).setCell b6 (iI 4)).putObj D (.deferred none)):=by
 obtain⟨f1,f2,f3,f4,f5⟩:=EF (u:=iI p) (v:=iI s) (e:=iI 4) hF j8 R1 hK hb IL iR;have FP:Fr (fun b=>b=D) (((W6.setCell (aA bd 4) (iI p)).setCell (aA bd 5) (iI s)).setCell b6 (iI 4)) ((((W6.setCell (aA bd 4) (iI p)).setCell (aA bd 5) (iI s)).setCell b6 (iI 4)).putObj D (.deferred none)):=(Fr.refl (fun b=>b=D) _).putObj (fun _=>rfl) _;have l1:=hlt .d;have l2:=hlt .bf;have l3:=hlt .bq;simp only[P0.at_] at l1 l2 l3;have s9:=Tx hS j8 (iI p) (iI s);have s10:=s9.M3 f4 f5 dC;have s11:=s10.my FP ⟨oM,oM,oM⟩ (fun cs t f e=>by rw[f2] at e;cases e);exact⟨4,rfl,f3,.inr ⟨rfl,ha,s11.mono hN⟩⟩
def Ex0 (B:P0)(y:Cs)(P:J2)(a:Bool)(N:Nat)(l:List Rf)(w:w9)(e:Ending)(w':w9):Prop:=
 ∃ va vn vc err,e = rT (tU #[sL va vn vc,iI err])/\D0 B w w'/\((err=0/\aq w' w.heap.size (sL va vn vc) l/\C1 w' B y P a (N+1))\/(err=4/\a=true/\C5 w' B y P (N+1)))
def Dh0 (h:C1 w B y P a N)(hD:N2 w bd B.s x)(hC:dH y x E0 slots)(hN:N+1<=90000) :
  cP 120 #[A7 bd] w (Ex0 B y P a N E0 w):=by
 have rO:=hid fun W (F:Fq w W)=>QE (h.J0 F) x.rp x.rs hC.rr.1 hC.rr.2 hC.root hN;have HD:=hid hD;have HC:=hid hC;obtain⟨c0,c1,c2,c3,c4,c5,cz,cl⟩:=z7 hD;clear h hD hC;go_enter func120,ntmps120;go_wp2_with fail
 go_region_held3 (fun W=>W.cell? bd=some (pO (aP B.s 0))/\W.cell? (aA bd 4)=some (iI x.rp)/\W.cell? (aA bd 5)=some (iI x.rs)) (go_keep)
  (first
   | (go_at_call 24;refine (rO _ (by first|exact fR|exact fR.drew)).mono ?_;rintro e W2 ⟨la,ll,lc,err,rfl,F2,hr⟩;replace F2:D0 B w W2:=D0.trans (D0.none (by first|exact fR|exact fR.drew)) F2;obtain⟨c0,c1,c2,c3,c4,c5,cz,cl⟩:=z7 (HD.T1 F2);have H2:=hi2 F2 hr;clear F2 hr))
 rcases H2.2 with⟨rfl,rfl,hb,hS⟩|⟨rfl,ha,U0⟩
 .have N8:(P3 E0).length=12*x.leaves:=by rw[EE,HC.D7]
  rw[N8] at hb;have wn:=hid (fun W (F:Fq W2 W)=>WQ (hb.fr F fun _ _ _ h=>h).slb HC.leaf.tr HC.D7 (by have:=HC.z.ru;omega));have HS:=hi2 hS H2.1;have GR:=hid (mo0 (HD.T1 H2.1) (by have:=HC.z.most;omega) HC.z.per.1 (by have:=HC.z.ru;omega));clear hb hS;rw[N8];go_wp2_with (go_at_call 182;refine GR.mono ?_)
  rintro e W3 ⟨rfl,m,rfl⟩;go_wp2_with (go_at_call 181;refine (wn _ (fR.drewN _)).mono ?_)
  rintro e W4 ⟨v,rfl,A0,F4⟩;have H4:=hi2 A0 F4;clear A0 F4;go_wp2_with fail
  go_ret2;have qt:Fq W2 W4:=(fR.drewN m).trans H4.2 nI;have ho:=BE H4.1 (nT HS.2.size sP);obtain⟨va,vc,rfl,-⟩:=A2 ho;exact⟨va,_,vc,0,rfl,D0.trans HS.2 (D0.none qt),.inl ⟨rfl,ho,HS.1.J0 qt⟩⟩
 .have HX:=hi2 ha (aI U0 H2.1);clear U0 ha;go_wp2_with fail
  go_ret2;exact⟨_,_,_,4,rfl,HX.2.2,.inr ⟨rfl,HX.1,HX.2.1⟩⟩
attribute [local go_sem] Oper.semAt_some
def qJ0 {lp:Nat}{o o':Obj}(ho:W.heap[lp]?=some o)(hc:o.isCells=false)(h1:lp≠bs)(h2:lp≠D5)(h3:lp≠bd):iF bs D5 bd W (W.putObj lp o'):=by
 refine⟨fun g c f hg=>?_,aC _ _ _ _ h1,aC _ _ _ _ h2,fun i=>by rw[nn0 _ _ _ _ _ h3]⟩;rw[aC _ _ _ _ (by rintro rfl;rw[hg] at ho;cases ho;cases hc)];exact hg
def vD0 (B0 per:Nat)(l:List Int)(z:oF):OwnFrom B0 (fun (_:Unit) W=>MO per l z W):=
 zh (fun _ W W' h F=>by
   obtain⟨h1,h2,h3,g,off,c,e,hg⟩:=h;exact⟨h1.J0 F,h2,h3,g,off,c,e,F.heap hg id⟩)
  (fun _ W W' k h F hk hc=>by
   obtain⟨h1,h2,h3,g,off,c,e,hg⟩:=h;have hne:¬ g=k:=fun e=>by rw[e] at hg;exact hc _ _ _ hg
   exact⟨h1.fr F (fun b off' e' _ _=>by rw[e] at e';cases e';exact hne),h2,h3,g,off,c,e,F.heap hg hne⟩)
def PR {b e size:Nat}{a:Option Addr}{xs:List Value}(h:w.ownsRow b e size (sL a n c) m xs):n=m:=by
 obtain⟨_,⟨h0,h1⟩|⟨g,cap,cur,hv,_⟩⟩:=h
 .cases h0;exact h1.symm
 .cases hv;rfl
def BL0 {P:D4}{sa:Option Addr}{l:List Int}(h:C1 w B y P a N)(hD:N2 w bd B.s x)(hC:dH y x E0 slots)(X4:y.pages<=2147483647)(hL:Live y (B2 x.rp E0++rest) M)(hK:K->oX y (B2 x.rp E0++rest))(hc:∀ k ∈ rest,y.cont k=c0 k)
  (hM:1+x.leaves+rest.length+2*M<y.pages) (hl:eO w sa n c l) (PA:∀ W,D0 B w W->eO W sa n c l) (hn:n<=100000) (sN:l.any (gD x.slots)=false) (hr:bh r) (hN:N+2*n+3<=90000) :
  cP 50 #[A7 bd,sL sa n c,cV r.1 r.2] w (Gf B bd x y P a (N+2*n+3) rest M K c0 (R4 slots (l.map Int.toNat) r) w):=by
 refine (callsIn_wide (n:=10)).1 ?_;have hlt:=fun r=>h.lt r
 have xm:=Yi h hD;obtain⟨w1,I0⟩:=eX (((w.alloc (.cells #[A7 bd] 83)).alloc (.cells #[iI r.1,iI r.2] 35)).alloc (.cells #[iI 0] 24))
 obtain⟨b0,b1,b2,F1⟩:=nC I0;have s1:w1.heap.size=w.heap.size+3:=by rw[<- I0];simp
 have x0:=G0 b0 0;simp at x0;obtain⟨e0,e1,ez,el⟩:=cells2 b1;have hrt:=Tl r.1 r.2 w1;unfold QA at hrt;rw[show si r.1 r.2=true by obtain⟨h1,h2,h3,h4⟩:=hr;simp[si];omega] at hrt;have yI:=hid hrt;have R6:=hid I0;have H1:=hi2 b2 (aI F1 (aI b0 b1));have h0:0<w.heap.size:=by have:=h.base;have:=h.jr;omega
 have H:=hi2 h (aI hD (aI hC (aI hL (aI hK (aI hc (aI PA hr))))));have AP:=hid (fun W (F:Fq w1 W)=>show cP 123 #[sL sa n c,.func (.func 124) #[] #[pO w]] W (BT (bO false) W) by
  have:=nj0 (F.heap (F1.heap hD id) id:N2 W bd B.s x) (F.heap b0 id) (by have:=hC.z.most;omega) ((hl.J0 F1).J0 F) hn;rw[sN] at this;exact this)
 have Eo:=hid hlt;have bY:=hC.z.ru;have AK:=hid sN;clear I0 b0 b1 b2 F1 hrt h hD hC hL hK hc hl PA sN hr hlt;refine callsIn_of_wp_marks func50 rfl trivial ?_ rfl;simp only[ntmps50,zA,lC,cJ,Nat.reduceAdd,Nat.reduceSub,dV,dW,dZ,dX,C7,ak];gi_wp2_with (fail)
 rw[R6];refine (callsIn_wide.2 yI.o).mono ?_;rintro e W2 ⟨rfl,F2⟩;have ce:=G0 (F2.heap H1.2.2.1 id) 0;simp at ce;have oJ:=hid (AP.o _ F2);have Y0:=hid F2;clear F2 AP yI x0 e0 e1 ez el;gi_wp2_with (fail)
 refine (callsIn_wide.2 oJ.o).mono ?_;rintro e W3 ⟨rfl,m,rfl⟩;have dQ:(W2.drewN m).cell? w=some (A7 bd):=ce;have FW:Fq w (W2.drewN m):=(H1.2.1.trans Y0 nI).drewN m;have iE:=hid (Dh0 (H.1.J0 FW) (FW.heap H.2.1 id:N2 _ bd B.s x) H.2.2.1 oM);have N5:=hid FW;clear FW oJ ce;gi_wp2_with (fail)
 refine (callsIn_wide.2 iE.o).mono ?_;rintro e W4 ⟨ta,nt,tc,err,rfl,F4,⟨rfl,A0,hS⟩|⟨rfl,ha,U0⟩⟩
 .have vD:E0.length=nt:=(PR A0).symm;have qp:D0 B w W4:=D0.trans (D0.none N5.o) F4;have hg:∀ (b:Nat) cs t,w1.heap[b]?=some (.cells cs t)->t ∉ aR->W4.heap[b]?=some (.cells cs t):=fun b cs t hb ht=>F4.heap ((Y0.drewN m).heap hb id) ht
  have q3:=hg _ _ _ H1.2.2.1 dC;have q5:=hg _ _ _ H1.2.2.2 dC;have q6:=hg _ _ _ H1.1 dC;have hx4:=G0 q3 0;simp at hx4;have ja:=M0 q3;have E5:w.heap.size+3<=(W2.drewN m).heap.size:=by have:=Y0.size;simp;omega
  have H4:=hi2 hS (aI (BE A0 E5) (aI qp (aI q3 (aI q5 (aI q6 (aI vD (nT E5 F4.size)))))));clear A0 hS F4 qp hg q3 q5 q6 vD E5 dQ;gi_wp2_with (fail)
  refine (callsIn_wide.2 (qQ0 bd sa n c _)).mono ?_;rintro e w' ⟨rfl,rfl⟩;gi_wp2_with (fail)
  obtain⟨W0,B4⟩:=eX (((W4.alloc (.cells #[sL ta nt tc] 33)).alloc (.cells #[A7 bd] 83)).alloc (.cells #[sL sa n c] 52))
  obtain⟨p7,ur,Ms,F0⟩:=nC B4;have hsz:W0.heap.size=W4.heap.size+3:=by rw[<- B4];simp
  rw[B4];obtain⟨vf,C2,qp,q3,q5,q6,vD,Lk⟩:=H4.o;have TW:N2 W0 bd B.s x:=F0.heap (H.2.1.T1 qp) id;have Rs:D0 B w W0:=D0.trans qp (D0.none F0);have T4:∀ z ∈ l,0<=z/\z<1048577:=fun z hz=>by
   have h1:=DJ.1 AK z hz;have h2:=(NZ (x:=x) (by have:=H.2.2.1.z.most;omega)).1;simp[gD] at h1;omega
  have pw:Ge w W0 B bd x y P a (N+1) rest M K c0 slots r ta nt tc W4.heap.size (W4.heap.size+2) (W4.heap.size+1) (sL sa n c) [] 0:=
   ⟨F0.heap q3 id,F0.heap q5 id,F0.heap q6 id,p7,Ms,ur,TW,⟨y,E0,vD,vf.J0 F0,H.2.2.1.E0 H.2.2.2.1 H.2.2.2.2.1 H.2.2.2.2.2.1,by have:=K3 C2 F0 fun _ _ _ h=>h;rw[vD] at this;exact this,Like.refl y,rfl,rfl⟩,Rs⟩
  have hlt:=Eo.o;have tT:w<=(W0:Nat):=Rs.size;refine dE0 (F:=Fence.wide) rfl oM (gf:=186) (lb:=#[pO (aP (W4+2) 0),pO (aP (W4+1) 0)]) rfl trivial (enters_of func186 kF rfl)
   (fun pre W=>Ge w W B bd x y P a (N+1) rest M K c0 slots r ta nt tc W4.heap.size (W4.heap.size+2) (W4.heap.size+1) (sL sa n c) (pre.flatMap (·.part)) (2*pre.length)/\pre.length<=n)
   (mz0 (w:=W0) Ms ur TW (H.2.2.2.2.2.2.1 W0 Rs) hn ⟨H.2.2.1.z.per.1,bY.2⟩ T4)
   (fun h k=>h.trans k) (fun W lp o o' hl ho hc _=>qJ0 ho hc oM oM (by have:=M0 TW;omega)) (Below.refl _ _) (fun _=>rfl)
   (fun cc pre W=>(cc = .ret/\pre.length<=n)/\Zr w W B y P a (N+1) (2*pre.length))
   (U6 (xx0 tT hlt h0) (eR _ _)) (fun cc=>U6 (eR _ _) (xw0 tT hlt)) ⟨pw,C3 _⟩
   (fun z a' W=>MO x.per l z W/\a'={ tmps:=#[A7 bd,sL sa n c,cV r.1 r.2,pO w,undef,pO (aP (w+1) 0),pO (aP (w+1+1) 0),pO W4,iI 0,iI z.page,sL z.a z.n z.c,undef,undef,undef,undef,A7 bd,bO false,bO false,.agg #[iI r.1,iI r.2],bO true,bO false,bO false,sL sa n c,.func (.func 124) #[] #[pO w],bO false,tU #[sL ta nt tc,iI 0],A7 bd,tU #[sL ta nt tc,iI 0],sL ta nt tc,iI 0,iI 0,bO false,undef,A7 bd,sL sa n c,.func (.func 186) #[] #[pO (aP (W4+1+1) 0),pO (aP (W4+1) 0)],iI z.page,sL z.a z.n z.c,undef,undef,undef,undef,undef,undef,undef,undef,undef,undef,undef,undef,undef,undef,undef,undef,undef,undef,undef,undef,undef,undef,undef,undef,undef,undef,undef,undef,undef,undef,undef,undef,undef,undef,undef,undef,undef,undef,undef,undef,undef,undef,undef,undef,undef,undef,undef,undef,undef,undef,undef,undef,undef,undef,undef,undef,undef,undef,undef,undef,undef,undef,undef,undef],defers:=[] })
   (fun z a'=>U6 (vD0 _ _ _ _) (eR _ _))
   ?assign ?body ?done ?stop
  case assign =>
   rintro lp pre z W K' hI hT hK;have HI:=hi2 hI (aI hT hK);clear hI hT hK pw p7 ur Ms;gi_wp2
   exact HI.2.2 _ _ ((KeepsOthers.refl _).from _) (iF.drewN _ _ _ _ 0) HI.1 ⟨HI.2.1,rfl⟩
  case body =>
   rintro lp pre ⟨zp,za,zn,zc,P6⟩ a' W hl ⟨rr,ff⟩ ⟨hI,-⟩ ⟨hT,rfl⟩ hlen;obtain⟨z,hz⟩:∃ z:oF,(⟨zp,za,zn,zc,P6⟩:oF)=z:=⟨_,rfl⟩
   have HZ:=hid hz;rw[hz];obtain⟨y',tk,Z3,hS,O5,A0,A1⟩:=hI.ex;obtain⟨X3,U5,⟨J1,M1⟩,g,off,cg,xv,dK⟩:=hT;simp only at X3 U5 J1 M1 xv;rw[<- hz];simp only;subst xv;have xv:(some ⟨g,off,none⟩:Option Addr)=some ⟨g,off,none⟩:=rfl;have r9:E0.length=x.leaves:=H.2.2.1.D7;have Y9:kM y' x:=⟨H.2.2.1.z.most,⟨bY.1 |> fun _=>H.2.2.1.z.per.1,by rw[A1.1.room];exact H.2.2.1.z.per.2⟩,fun d hd=>by rw[A1.1.room];exact H.2.2.1.z.fits d hd,by rw[A1.1.room];exact H.2.2.1.z.room⟩;obtain⟨L,nP⟩:=eX ((pre.flatMap (·.part)).map Int.toNat)
   rw[nP] at O5;have Q8:(R4 slots L r).length=x.slots:=by rw[OH];exact H.2.2.1.slen
   have jF:∀ q ∈ R4 slots L r,bh q:=TL H.2.2.1.leaf.sr H.2.2.2.2.2.2.2
   have nZ:YG y'.cont x.per tk (R4 slots L r):=⟨jF,O5.right,fun i q hi=>O5.cont i q _ hi rfl⟩;have Dy:tk.length=x.leaves:=by rw[Z3,<- vD,r9]
   have Do:zp<nt:=by
    obtain⟨q,hq⟩:∃ q,P6[0]?=some q:=⟨_,gE (by rw[X3.len];exact J1)⟩
    obtain⟨Fu,kk,ag,M4⟩:=U5 q (gM hq);have h1:=DJ.1 AK q Fu;simp[gD] at h1;have h2:kk<x.slots:=oM;rw[<- Z3,Dy,<- M4];refine (TD H.2.2.1.z.per.1 _).2 ?_;have:=Nat.div_mul_le_self kk x.per;omega
   have Jg:iq W ta tk:=by
    have ho:aq W (w.heap.size+3) (sL ta tk.length tc) tk:=(by rw[<- Z3] at A0;exact A0);obtain⟨a2,c2,e,jE⟩:=uQ ho;cases e;exact jE
   have nw:=hid (Yd hS hI.dir Y9 nZ Q8 Dy (tc:=tc) Z3 Jg Do oM);have u3:=G0 hI.b3 0;have u7:=G0 hI.b7 0;simp at u3 u7;have HI:=hi2 hI (aI hS (aI O5 (aI A0 (aI A1 (aI X3 (aI U5 (aI xv (aI dK (aI Z3 (aI Q8 (aI jF (aI Y9 nP))))))))))));clear hI hS O5 A0 A1 X3 U5 xv dK Z3 Q8 jF nZ Dy Jg Y9 nP r9 pw p7 ur Ms ff;gi_wp2_with (fail)
   refine (CallsIn.inRound lp (callsIn_wide.2 nw.o)).mono ?_;rintro e W5 ⟨v5,err,rfl,F5,⟨rfl,J3,J5⟩|⟨rfl,ha,U0⟩⟩
   .obtain⟨va,vc,rfl,Dz,-,-,-⟩:=A2 J3;obtain⟨vn,oo⟩:=eX ((chunk (R4 slots L r) x.per zp).length)
    rw[oo];rw[oo] at Dz;have hvl:vn<=41:=(by rw[<- oo,sb];omega);have H5:=hi2 (show W5.ownsRow W 35 2 (sL va vn vc) vn ((chunk (R4 slots L r) x.per zp).flatMap N7) by rw[<- oo];exact J3) (aI J5 (aI F5 oo));have Uo:w.heap.size<=W.heap.size:=HI.1.fr.size;have S5:w.heap.size+3<=W.heap.size:=(by have:=M0 HI.1.b6;omega);have eB:=H.2.2.1.z.per.1;have hp0':(x.per:Int)≠0:=oM;clear J3 J5 F5 oo u3 u7;gi_wp2
    gi_loopw [50] (fun iv wr=>∃ k:Nat,k<=zn/\iv = iI k/\wr.ownsRow W 35 2 (sL va vn vc) vn ((R4 (chunk (R4 slots L r) x.per zp) (((P6.take k).map Int.toNat).map (· % x.per)) r).flatMap N7)/\Fr (fun b=>va=some ⟨b,0,none⟩) W5 wr) fun iv _=>zn-(intOf iv).toNat
    case atStart=>exact⟨0,C3 _,rfl,H5.1,fR⟩
    case round =>
     obtain⟨k,hk,rfl,jc,ar⟩:=hrel;have gi:∀ b,va=some ⟨b,0,none⟩->W.heap.size<=b/\∃ c,W5.heap[b]?=some (.cells c 35):=fun b e=>by
      have:=O6 H5.1 (g:=b) (by rw[e];rfl);exact this
     have bV:∀ (b:Nat) cs t,W5.heap[b]?=some (.cells cs t)->(t≠35\/b<W.heap.size)->wr.heap[b]?=some (.cells cs t):=fun b cs t hb ht=>ar.heap hb fun e=>by
      obtain⟨h1,c,hc⟩:=gi b e;rw[hb] at hc;cases hc;rcases ht with h|h
      .exact h rfl
      .omega
     by_cases T7:k<zn
     .have hd:decide ((k:Int)<(zn:Int))=true:=sO;have cF:(k:Int)<(zn:Int):=oM;obtain⟨-,-,-,-,-,X3,U5,-,dK,-,-,-,-,-⟩:=HI.o;obtain⟨q,hq⟩:∃ q,P6[k]?=some q:=⟨_,gE (by rw[X3.len];exact T7)⟩
      obtain⟨Fu,kk,rfl,M4⟩:=U5 q (gM hq);have dM:=bV g _ _ (H5.2.2.1.heap dK dC) (.inl dC);obtain⟨bq,oq,eq,-,JI⟩:=X3.at_ k _ hq;cases eq;have cq:wr.cell? (aA g (off+k))=some (iI kk):=by
       rw[G0 dM,<- G0 dK];exact JI
      have h3:=bV _ _ _ (H5.2.2.1.heap HI.1.b3 dC) (.inl dC);have EW:=bV _ _ _ (H5.2.2.1.heap HI.1.b5 dC) (.inr oM);have hdr:N2 wr bd B.s x:=bV _ _ _ (HI.1.dir.T1 H5.2.2.1) (.inl dC);have u3:=G0 h3 0;simp at u3;obtain⟨e0,e1,ez,el⟩:=cells2 EW;obtain⟨c0',c1,c2,c3,c4,c5,cz,cl⟩:=z7 hdr;have vy:=rm kk eB;have hmv:kk % x.per<vn:=by
       have h1:=DJ.1 AK _ Fu;simp[gD] at h1;rw[<- H5.2.2.2,sb];have h2:=HI.2.2.2.2.2.2.2.2.2.2.1;rw[h2,<- M4];have h4:=Nat.div_add_mod kk x.per;rw[dU] at h4;omega
      have e3:(kk:Int) % (x.per:Int)=((kk % x.per:Nat):Int):=sP;have e3t:(kk:Int).tmod (x.per:Int)=((kk % x.per:Nat):Int):=(by first|exact (Int.ofNat_tmod _ _).symm|simp);have hp0n:¬ x.per=0:=oM;have fd:((kk % x.per:Nat):Int)<(vn:Int):=oM;have Z3:(((P6.take (k+1)).map Int.toNat).map (· % x.per))=(((P6.take k).map Int.toNat).map (· % x.per))++[kk % x.per]:=(by rw[ea,hq];simp);have Bo:=hid Z3;obtain⟨l5,ii⟩:=eX (R4 (chunk (R4 slots L r) x.per zp) (((P6.take k).map Int.toNat).map (· % x.per)) r)
      have M9:l5.length=vn:=(by rw[<- ii,OH];exact H5.2.2.2);have fg:R4 (chunk (R4 slots L r) x.per zp) (((P6.take (k+1)).map Int.toNat).map (· % x.per)) r=l5.set (kk % x.per) r:=(by rw[Z3,iF0,ii];rfl);rw[ii] at jc;have dx:aq wr W.heap.size (sL va l5.length vc) l5:=(by rw[M9];rw[<- M9] at jc ⊢;exact jc);obtain⟨q5,pT⟩:∃ q5,l5[kk % x.per]?=some q5:=⟨_,gE oM⟩
      obtain⟨g5,rfl,mQ,d0,d1⟩:=EV dx pT;obtain⟨hg5w,c5',JE⟩:=O6 dx (g:=g5) rfl;have d5z:=fun o=>X2 JE o
      have dO:=Ye dx (k:=kk % x.per) oM r.1 r.2;have HS:=hi2 dO (aI fg (aI ar M9));clear Z3 ii fg jc dx hq Fu M4 dM JI dK X3 U5 h3 EW hdr gi bV pT JE dO ar M9 Bo;generalize kk % x.per=qm at *
      gi_wp2
      refine gv0 9 kF kF (fun h=>by obtain⟨_,_,h⟩:=h;exact h) kF ?_;simp only[Qk,List.take_zero,List.drop_succ_cons,List.drop_zero];repeat still_step
      refine wpStill_nil ?_;refine wpList_plain rfl fun K hK=>?_;go_simp;refine hK _ _ (wpList_nil ?_);clear hK K;gi_wp2
      go_roundw;case rel =>
       obtain⟨dO,fg,ar,M9⟩:=HS.o;refine⟨k+1,T7,by go_num,?_,?_⟩
       .rw[fg];rw[fj,M9] at dO;exact K3 dO ((Fr.refl (fun _=>False) _).drew) fun _ _ _ h=>h
       .exact Fr.drew (Fr.setCell (S:=fun b=>(some ⟨g5,0,none⟩:Option Addr)=some ⟨b,0,none⟩) (a:=⟨g5,qm*2+1,none⟩) (Fr.setCell (S:=fun b=>(some ⟨g5,0,none⟩:Option Addr)=some ⟨b,0,none⟩) (a:=⟨g5,qm*2,none⟩) ar (fun _=>rfl) _) (fun _=>rfl) _)
      case measure=>exact wM
     .obtain rfl:k=zn:=by omega
      have hd:decide ((k:Int)<(k:Int))=false:=sP;obtain⟨I9,du,O5,A0,A1,X3,U5,-,dK,Z3,Q8,jF,Y9,nP⟩:=HI.o;rw[tL (by rw[X3.len];exact nR _)] at jc;obtain⟨l5,ii⟩:=eX (R4 (chunk (R4 slots L r) x.per zp) ((P6.map Int.toNat).map (· % x.per)) r)
      have M9:l5.length=vn:=(by rw[<- ii,OH];exact H5.2.2.2);have Kh:∀ z ∈ l5,bh z:=(by rw[<- ii];exact TL (Ty jF x.per zp) H.2.2.2.2.2.2.2);rw[ii] at jc
      have hvpos:0<vn:=by
       have h1:zp<x.leaves:=(by rw[<- H.2.2.1.D7,vD];exact Do);have h2:=(TD eB zp).1 h1;rw[<- H5.2.2.2,sb,Q8];omega
      have dx:aq wr W.heap.size (sL va l5.length vc) l5:=(by rw[M9];rw[<- M9] at jc ⊢;exact jc);obtain⟨q5,pT⟩:∃ q5,l5[0]?=some q5:=⟨_,gE oM⟩
      obtain⟨gv,rfl,Pv,-,-⟩:=EV dx pT;obtain⟨UZ,cv5,JL⟩:=gi gv rfl;have Cd:Fr (fun b=>b=gv) W5 wr:=ar.mono fun b _ e=>by cases e;rfl
      have FW:D0 B W wr:=Fr.trans H5.2.2.1 Cd fun b hb e=>oM;have zD:C1 wr B y' P a (N+1+2*pre.length+1):=H5.2.1.M3 Cd JL dC oM;obtain⟨⟨q1,q2⟩,hq⟩:∃ q,tk[zp]?=some q:=⟨_,gE (by rw[Z3];exact Do)⟩
      obtain⟨fM,gr,pR,jd⟩:=O5.page hq;obtain⟨pn,rfl⟩:=iZ (O5.right _ (gM hq)).1;simp only[jK] at gr pR jd;have Dn:aq wr (w.heap.size+3) (sL ta tk.length tc) tk:=by
       rw[Z3];have:=K3 A0 FW fun g c hg hs=>absurd (hs.2.1 c 35 _ hg) dC;rw[<- Z3] at this ⊢;exact this
      obtain⟨gt,rfl,Fg,t0,t1⟩:=EV Dn hq;simp only at t0 t1;obtain⟨hgt0,ct,Fb⟩:=O6 Dn (g:=gt) rfl;have P2:=O5.live.free (by have h1:y'.pages=y.pages:=A1.1.pages;simp only[B2,lA,lC,Z8];rw[Z3,<- vD,H.2.2.1.D7,h1];omega);have zk:12*l5.length<=y'.room:=by
       have h1:=Y9.per.2;have h2:vn<=x.per:=(by rw[<- H5.2.2.2,sb];omega);rw[M9];omega
      obtain⟨a2,c2,e2,Jl⟩:=uQ dx;obtain⟨rfl,rfl⟩:a2=some ⟨gv,0,none⟩/\c2=vc:=by cases e2;exact⟨rfl,rfl⟩
      have oQ:=hid fun V (F:Fq wr V)=>LP (c:=c2) ((Jl.J0 F).row) Kh M9 oM;have wF:=hid fun V la lc (F:Fq wr V) (hb:T0 V la (12*l5.length) lc (P3 l5))=>LU (zD.J0 F) pn q2 (hb.inp B) (wS _) zk gr pR jd P2 oM;have h7:=FW.heap I9.b7 dC;have h3:=FW.heap I9.b3 dC;have HS:=hid (fun V (F:D0 B wr V)=>show V.cell? W4=some (sL gt nt tc)/\V.cell? w=some (A7 bd)/\V.cell? bd=some (pO (aP B.s 0)) from
       ⟨G0 (F.heap h7 dC) 0,G0 (F.heap h3 dC) 0,(z7 ((I9.dir.T1 FW).T1 F)).1⟩)
      have HT:=hid (fun V (F:D0 B wr V)=>show V.cell? (aA gt (zp*2))=some (iI pn)/\V.cell? (aA gt (zp*2+1))=some (iI q2)/\(∀ o,V.frozen? ⟨gt,o,none⟩=false)/\gt<V.heap.size by
       have hn:¬ (B.base<=gt/\Az B wr gt):=fun hs=>absurd (hs.2.1 ct 35 _ Fb) dC
       have hv:=D0.heap F Fb dC;exact⟨(Fr.cell F (p:=⟨gt,_,none⟩) Fg hn).trans t0,(Fr.cell F (p:=⟨gt,_,none⟩) Fg hn).trans t1,fun o=>X2 hv o,M0 hv⟩)
      obtain⟨s1,s2,s3⟩:=HS.o wr (D0.refl _ _);have Kw:¬ gt=w.heap.size+1+1:=oM;have HC:=hid Fb;have vY:=hid (FW.heap I9.b6 dC);have hne4:¬ gt=W4.heap.size:=fun e=>by rw[e,h7] at Fb;cases Fb
      have xH:¬ gt=w.heap.size:=oM;have hne6:¬ gt=bd:=fun e=>by have:=M0 H.2.1;omega
      have hzpi:(zp:Int)<(nt:Int):=oM;have HR:=hi2 I9 (aI du (aI O5 (aI A0 (aI A1 (aI U5 (aI Z3 (aI hq (aI FW (aI nP (aI ii M9))))))))));clear M9 I9 du O5 A0 A1 X3 U5 dK Z3 Q8 jF Y9 nP jc dx pT UZ JL ar Cd FW zD hq fM gr pR jd Dn Fb P2 zk e2 Jl h7 h3 ii Kh gi bV;gi_wp2
      refine cA0 (fun V=>V.cell? W4=some (sL gt nt tc)/\V.cell? w=some (A7 bd)/\V.cell? bd=some (pO (aP B.s 0)))
       (.rd 0 (.rd 1 (.rd 2 (.rd 3 (.rd 4 (.rd 5 (.rd 6 (.rd 7 (.rd 8 (.rd 10 (.two 9 11 (.op 11 (.op 12 (.rd 13 (.rd 14 (.rd 15 (.rd 16 (.op 17 (.rd 18 .done)))))))) (.op 9 (.op 12 (.rd 13 (.rd 14 (.rd 15 (.rd 16 (.op 17 (.rd 18 .done)))))))))))))))))))
       kF kF kF kF (fun h=>by obtain⟨_,_,h⟩:=h;exact h) (fun _ _ _ _ _ h=>h) (HS _ (D0.none (fR.drew))) ?_
      iterate 10
       refine oP ?_ ?_ ?_;rotate_left
       .intro V hV;obtain⟨s1,s2,s3⟩:=hV;go_simp;try with_reducible rfl
      try simp only[Act.put,sI,sZ,sS]
      refine mu ?_ ?_
      .refine fF _ gF rF fun K hK=>?_;go_simp;refine hK _ _ (HS _ (D0.none (fR.drew))) ?_;clear hK K;refine rQ fun K hK=>?_;refine (oQ _ (fR.drew)).mono ?_;rintro _ V5 ⟨la,lc,rfl,hb,F5⟩;have Q6:Fq wr V5:=(fR.drew).trans F5 nI;try go_simp
       refine hK _ _ (HS V5 (D0.none Q6)) ?_;clear hK K;try simp only[Act.put,sI,sZ,sS]
       refine fF _ gF rF fun K' hK'=>?_;go_simp;refine (wF _ _ _ Q6 hb).mono ?_;rintro _ V6 ⟨p6,s6,err,rfl,F6,P8⟩;have C4:D0 B wr V6:=D0.trans (D0.none Q6) F6;try go_simp
       refine hK' _ _ (HS V6 C4) ?_;clear hK' K';iterate 4
        refine oP ?_ ?_ ?_;rotate_left
        .intro V hV;obtain⟨s1,s2,s3⟩:=hV;go_simp;try with_reducible rfl
       try simp only[Act.put,sI,sZ,sS]
       obtain⟨g0,g1,gz,gl⟩:=HT.o V6 C4;obtain⟨s1,s2,s3⟩:=HS.o V6 C4;refine fF _ gF rF fun K' hK'=>?_;go_simp;refine hK' _ _ (by simp[go_sem, *]) ?_;clear hK' K' s1 s2 s3;refine oP ?_ ?_ ?_;rotate_left
       .intro V hV;obtain⟨s1,s2,s3⟩:=hV;go_simp;try with_reducible rfl
       try simp only[Act.put,sI,sZ,sS]
       refine o5 ?_;have L9:=D0.heap C4 HC dC;have R1:=D0.heap C4 vY dC;rcases P8 with⟨rfl,m',rfl,rfl,O8,aS⟩|⟨rfl,ha,U0⟩
       .have HE:=hi2 O8 (aI aS (aI C4 L9));clear O8 aS C4 F6 Q6 F5 hb L9 R1 g0 g1 gz gl;gi_wp2
        obtain⟨O8,aS,C4,L9⟩:=HE.o;obtain⟨I9,du,O5,A0,A1,U5,Z3,hq,FW,nP,ii,M9⟩:=HR.o;have kP:=D0.trans FW C4;have hst:=mT0 I9 Z3 du (by rw[nP];exact O5) A0 A1 eB X4 hq O8 (fun z hz=>(U5 z hz).2) kP (by rw[nP,ii];exact aS);have M4:=pv0 (i:=0) kP L9 I9.EC I9.gW I9.dir (m:=zp*2) (n:=zp*2+1) (iI m') (iI y'.gen);have jC:=((kP.keeps (fun r=>by have:=hlt r;omega:∀ r,B.at_ r<W0.heap.size)).trans ((KeepsOthers.setCell _ ⟨gt,zp*2,none⟩ (iI m')).from _)).trans ((KeepsOthers.setCell _ ⟨gt,zp*2+1,none⟩ (iI y'.gen)).from _);refine⟨jC,M4,?_,by simp;omega⟩;have e1:(pre++[({ page:=zp,a:=some ⟨g,off,none⟩,n:=k,c:=zc,part:=P6 }:oF)]).flatMap (·.part)=pre.flatMap (·.part)++P6:=sP;have e2:2*(pre++[({ page:=zp,a:=some ⟨g,off,none⟩,n:=k,c:=zc,part:=P6 }:oF)]).length=2*pre.length+2:=sO;rw[e1,e2];exact hst
       .have z6:=G0 R1 0;have zz6:=X2 R1 0;have zl6:=M0 R1;simp at z6;have HE:=hi2 ha (aI U0 (aI C4 (aI L9 R1)));clear ha U0 C4 F6 Q6 F5 hb L9 R1 g0 g1 gz gl;gi_wp2
        obtain⟨ha,U0,C4,L9,R1⟩:=HE.o;obtain⟨I9,du,O5,A0,A1,U5,Z3,hq,FW,nP,ii,M9⟩:=HR.o;have kP:=D0.trans FW C4;obtain⟨V7,m8⟩:=eX ((V6.setCell (aA gt (zp*2)) (iI p6)).setCell (aA gt (zp*2+1)) (iI s6))
        have jC:=((kP.keeps (fun r=>by have:=hlt r;omega:∀ r,B.at_ r<W0.heap.size)).trans ((KeepsOthers.setCell _ ⟨gt,zp*2,none⟩ (iI p6)).from _)).trans ((KeepsOthers.setCell _ ⟨gt,zp*2+1,none⟩ (iI s6)).from _);have F7:Fr (fun b=>b=gt) V6 V7:=(by rw[<- m8];exact DE _ _);have E6:=F7.heap R1 fun e=>Kw e.symm;have UP:=U0.M3 F7 L9 dC;have Rj:D0 B w V7:=uu (D0.trans I9.fr kP) F7 oM;rw[m8] at jC ⊢;have FL:Fr (fun b=>b=w.heap.size+1+1) V7 (V7.setCell (aA (w+1+1) 0) (iI 4)):=Fr.setCell (S:=fun b=>b=w.heap.size+1+1) fR (fun _=>rfl) _;refine⟨jC.trans ((KeepsOthers.setCell _ _ _).from _),⟨rfl,by simp;omega⟩,⟨by rw[hsc _ _ _ _ E6];rfl,?_,uu Rj FL oM,ha⟩⟩;exact ((fD UP A1.1).M3 FL E6 dC).mono sO
      .refine fF _ gF rF fun K hK=>?_;go_simp;refine (oQ _ (fR.drew)).mono ?_;rintro _ V5 ⟨la,lc,rfl,hb,F5⟩;have Q6:Fq wr V5:=(fR.drew).trans F5 nI;try go_simp
       refine hK _ _ (HS V5 (D0.none Q6)) ?_;clear hK K;try simp only[Act.put,sI,sZ,sS]
       obtain⟨g0,g1,gz,gl⟩:=HT.o V5 (D0.none Q6);refine fF _ gF rF fun K hK=>?_;go_simp;refine hK _ _ (HS V5 (D0.none Q6)) ?_;clear hK K g0 g1 gz gl;try simp only[Act.put,sI,sZ,sS]
       refine fF _ gF rF fun K' hK'=>?_;go_simp;refine (wF _ _ _ Q6 hb).mono ?_;rintro _ V6 ⟨p6,s6,err,rfl,F6,P8⟩;have C4:D0 B wr V6:=D0.trans (D0.none Q6) F6;try go_simp
       refine hK' _ _ (HS V6 C4) ?_;clear hK' K';iterate 4
        refine oP ?_ ?_ ?_;rotate_left
        .intro V hV;obtain⟨s1,s2,s3⟩:=hV;go_simp;try with_reducible rfl
       try simp only[Act.put,sI,sZ,sS]
       obtain⟨g0,g1,gz,gl⟩:=HT.o V6 C4;obtain⟨s1,s2,s3⟩:=HS.o V6 C4;refine fF _ gF rF fun K' hK'=>?_;go_simp;refine hK' _ _ (by simp[go_sem, *]) ?_;clear hK' K' s1 s2 s3;refine oP ?_ ?_ ?_;rotate_left
       .intro V hV;obtain⟨s1,s2,s3⟩:=hV;go_simp;try with_reducible rfl
       try simp only[Act.put,sI,sZ,sS]
       refine o5 ?_;have L9:=D0.heap C4 HC dC;have R1:=D0.heap C4 vY dC;rcases P8 with⟨rfl,m',rfl,rfl,O8,aS⟩|⟨rfl,ha,U0⟩
       .have HE:=hi2 O8 (aI aS (aI C4 L9));clear O8 aS C4 F6 Q6 F5 hb L9 R1 g0 g1 gz gl;gi_wp2
        obtain⟨O8,aS,C4,L9⟩:=HE.o;obtain⟨I9,du,O5,A0,A1,U5,Z3,hq,FW,nP,ii,M9⟩:=HR.o;have kP:=D0.trans FW C4;have hst:=mT0 I9 Z3 du (by rw[nP];exact O5) A0 A1 eB X4 hq O8 (fun z hz=>(U5 z hz).2) kP (by rw[nP,ii];exact aS);have M4:=pv0 (i:=0) kP L9 I9.EC I9.gW I9.dir (m:=zp*2) (n:=zp*2+1) (iI m') (iI y'.gen);have jC:=((kP.keeps (fun r=>by have:=hlt r;omega:∀ r,B.at_ r<W0.heap.size)).trans ((KeepsOthers.setCell _ ⟨gt,zp*2,none⟩ (iI m')).from _)).trans ((KeepsOthers.setCell _ ⟨gt,zp*2+1,none⟩ (iI y'.gen)).from _);refine⟨jC,M4,?_,by simp;omega⟩;have e1:(pre++[({ page:=zp,a:=some ⟨g,off,none⟩,n:=k,c:=zc,part:=P6 }:oF)]).flatMap (·.part)=pre.flatMap (·.part)++P6:=sP;have e2:2*(pre++[({ page:=zp,a:=some ⟨g,off,none⟩,n:=k,c:=zc,part:=P6 }:oF)]).length=2*pre.length+2:=sO;rw[e1,e2];exact hst
       .have z6:=G0 R1 0;have zz6:=X2 R1 0;have zl6:=M0 R1;simp at z6;have HE:=hi2 ha (aI U0 (aI C4 (aI L9 R1)));clear ha U0 C4 F6 Q6 F5 hb L9 R1 g0 g1 gz gl;gi_wp2
        obtain⟨ha,U0,C4,L9,R1⟩:=HE.o;obtain⟨I9,du,O5,A0,A1,U5,Z3,hq,FW,nP,ii,M9⟩:=HR.o;have kP:=D0.trans FW C4;obtain⟨V7,m8⟩:=eX ((V6.setCell (aA gt (zp*2)) (iI p6)).setCell (aA gt (zp*2+1)) (iI s6))
        have jC:=((kP.keeps (fun r=>by have:=hlt r;omega:∀ r,B.at_ r<W0.heap.size)).trans ((KeepsOthers.setCell _ ⟨gt,zp*2,none⟩ (iI p6)).from _)).trans ((KeepsOthers.setCell _ ⟨gt,zp*2+1,none⟩ (iI s6)).from _);have F7:Fr (fun b=>b=gt) V6 V7:=(by rw[<- m8];exact DE _ _);have E6:=F7.heap R1 fun e=>Kw e.symm;have UP:=U0.M3 F7 L9 dC;have Rj:D0 B w V7:=uu (D0.trans I9.fr kP) F7 oM;rw[m8] at jC ⊢;have FL:Fr (fun b=>b=w.heap.size+1+1) V7 (V7.setCell (aA (w+1+1) 0) (iI 4)):=Fr.setCell (S:=fun b=>b=w.heap.size+1+1) fR (fun _=>rfl) _;refine⟨jC.trans ((KeepsOthers.setCell _ _ _).from _),⟨rfl,by simp;omega⟩,⟨by rw[hsc _ _ _ _ E6];rfl,?_,uu Rj FL oM,ha⟩⟩;exact ((fD UP A1.1).M3 FL E6 dC).mono sO
   .have fG:=D0.trans HI.1.fr F5;have R1:=F5.heap HI.1.b6 dC;have z6:=G0 R1 0;have zz6:=X2 R1 0;have zl6:=M0 R1;simp at z6;have HY:=hi2 ha (aI U0 (aI fG (aI R1 (F5.keeps (fun r=>by have:=hlt r;omega:∀ r,B.at_ r<W0.heap.size)))));clear ha U0 fG R1;gi_wp2
    obtain⟨ha,U0,fG,R1,jC⟩:=HY.o;have FL:Fr (fun b=>b=w.heap.size+1+1) W5 (W5.setCell (aA (w+1+1) 0) (iI 4)):=Fr.setCell (S:=fun b=>b=w.heap.size+1+1) fR (fun _=>rfl) _;refine⟨jC.trans ((KeepsOthers.setCell _ _ _).from _),⟨rfl,by simp;omega⟩,⟨by rw[hsc _ _ _ _ R1];rfl,?_,uu fG FL oM,ha⟩⟩;exact ((fD U0 HI.2.2.2.2.1.1).M3 FL R1 dC).mono sO
  case done =>
   rintro D xs W wZ jj ⟨hI,dS⟩ hK;obtain⟨y',tk,Z3,hS,O5,A0,A1⟩:=hI.ex;rw[jj,oj0] at O5;subst Z3;have r9:tk.length=x.leaves:=by rw[<- vD];exact H.2.2.1.D7
   have Y9:kM y' x:=⟨H.2.2.1.z.most,⟨H.2.2.1.z.per.1,by rw[A1.1.room];exact H.2.2.1.z.per.2⟩,fun d hd=>by rw[A1.1.room];exact H.2.2.1.z.fits d hd,by rw[A1.1.room];exact H.2.2.1.z.room⟩;have Q8:(R4 slots (l.map Int.toNat) r).length=x.slots:=by rw[OH];exact H.2.2.1.slen
   have jF:∀ q ∈ R4 slots (l.map Int.toNat) r,bh q:=TL H.2.2.1.leaf.sr H.2.2.2.2.2.2.2
   obtain⟨fM,gr,pR,jd⟩:=O5.YY;have P2:=O5.live.free (by have h1:y'.pages=y.pages:=A1.1.pages;simp only[B2,lA,lC,Z8];omega);have zk:12*tk.length<=y'.room:=by rw[A1.1.room,r9];exact H.2.2.1.z.leaves
   have Jg:iq W ta tk:=by
    obtain⟨a2,c2,e,jE⟩:=uQ (show aq W (w.heap.size+3) (sL ta tk.length tc) tk from A0);cases e;exact jE
   have oQ:=hid fun V (F:Fq W V)=>LP (c:=tc) ((Jg.J0 F).row) O5.right rfl oM;have wF:=hid (fun V la lc (F:Fq W V) (hb:T0 V la (12*tk.length) lc (P3 tk))=>show cP 26 #[B.ptr,cV x.rp x.rs,sL la (12*tk.length) lc] V (Yl B y' P a (N+1+2*xs.length) x.rp.toNat (P3 tk) V) by
    have:=LU (hS.J0 F) x.rp.toNat x.rs (hb.inp B) (wS _) zk gr pR jd P2 oM;rw[<- fM] at this;exact this)
   have HB:=hid fun V (F:D0 B W V)=>show V.cell? w=some (A7 bd)/\V.cell? W4=some (sL ta tk.length tc) from⟨G0 (F.heap hI.b3 dC) 0,G0 (F.heap hI.b7 dC) 0⟩;have dE:=hid hI.dir;obtain⟨u3,u7⟩:=HB.o W (D0.refl _ _);obtain⟨c0',c1,c2,c3,c4,c5,cz,cl⟩:=z7 hI.dir;have km:bd<w:=M0 H.2.1;have hne1:¬ bd=w.heap.size:=oM
   have gq:¬ bd=W4.heap.size:=oM
   have HI:=hi2 hI.fr (aI hI.b6 (aI hS (aI O5 (aI A1 (aI Y9 (aI Q8 (aI jF (aI dS (aI hK r9)))))))));clear hI hS O5 A0 A1 Y9 Q8 jF fM gr pR jd P2 zk Jg jj pw p7 ur Ms hK vD r9 C2 q3 q5 q6;gi_wp2
   refine wpIn_wide.2 ?_;have HS:=hid fun V (F:D0 B W V)=>show V.cell? w=some (A7 bd)/\V.cell? W4=some (sL ta tk.length tc)/\V.cell? bd=some (pO (aP B.s 0)) from⟨(HB V F).1,(HB V F).2,(z7 (dE.T1 F)).1⟩;clear u3 u7 c0' c1 c2 c3 c4 c5 cz cl;refine wp_region_noPanic ?_;refine q8 (fun V=>V.cell? w=some (A7 bd)/\V.cell? W4=some (sL ta tk.length tc)/\V.cell? bd=some (pO (aP B.s 0)))
    (.rd 0 (.rd 1 (.rd 2 (.rd 3 (.rd 4 (.rd 5 (.rd 6 (.rd 7 (.rd 9 (.two 8 10 (.op 10 (.op 11 (.rd 12 (.rd 13 (.rd 14 (.rd 15 (.rd 16 (.op 17 (.rd 18 .done))))))))) (.op 8 (.op 11 (.rd 12 (.rd 13 (.rd 14 (.rd 15 (.rd 16 (.op 17 (.rd 18 .done)))))))))))))))))))
    kF kF kF (fun _ _ _ _ _ h=>h) (HS _ (D0.none (fR.drew))) ?_
   iterate 9
    refine oP ?_ ?_ ?_;rotate_left
    .intro V hV;obtain⟨s1,s2,s3⟩:=hV;go_simp;try with_reducible rfl
   try simp only[Act.put,sI,sZ,sS]
   refine mu ?_ ?_
   .skip
    obtain⟨c0',c1,c2,c3,c4,c5,cz,cl⟩:=z7 (dE.T1 (D0.none (B:=B) (fR.drew)));refine fF _ gF rF fun K hK=>?_;go_simp;refine hK _ _ (HS _ (D0.none (fR.drew))) ?_;clear hK K c0' c1 c2 c3 c4 c5 cz cl;refine rQ fun K hK=>?_;refine (oQ _ (fR.drew)).mono ?_;rintro _ W5 ⟨la,lc,rfl,hb,F5⟩;have Q6:Fq W W5:=(fR.drew).trans F5 nI;try go_simp
    refine hK _ _ (HS _ (D0.none Q6)) ?_;clear hK K;refine rQ fun K hK=>?_;refine (wF _ _ _ Q6 hb).mono ?_;rintro _ W6 ⟨p6,s6,err,rfl,F6,P8⟩;have C4:D0 B W W6:=D0.trans (D0.none Q6) F6;have j8:=dE.T1 C4;try go_simp
    refine hK _ _ (HS _ C4) ?_;clear hK K;iterate 5
     refine oP ?_ ?_ ?_;rotate_left
     .intro V hV;obtain⟨s1,s2,s3⟩:=hV;go_simp;try with_reducible rfl
    try simp only[Act.put,sI,sZ,sS]
    obtain⟨u3,u7,-⟩:=HS.o _ C4;obtain⟨c0',c1,c2,c3,c4,c5,cz,cl⟩:=z7 j8;refine fF _ gF rF fun K hK=>?_;go_simp;refine hK _ _ (by simp[go_sem, *]) ?_;clear hK K;refine oP ?_ ?_ ?_;rotate_left
    .intro V hV;obtain⟨s1,s2,s3⟩:=hV;go_simp;try with_reducible rfl
    try simp only[Act.put,sI,sZ,sS]
    refine o5 ?_;refine NoPanic.normal ?_;obtain⟨i1,i2,i3,i4,i5,i6,i7,i8,i9,DC,i11⟩:=HI.o;have B7:D0 B w W6:=D0.trans i1 C4;have R1:=C4.heap i2 dC;have dI:=(C4.keeps (B0:=W0.heap.size) fun r=>by have:=hlt r;omega).same D _ wZ DC rfl;have z0:=G0 R1 0;have zz:=X2 R1 0;have zl:=M0 R1;simp at z0;have mT:¬ bd=w.heap.size+1+1:=oM;have Kv:¬ w.heap.size+1+1=bd:=oM;rcases P8 with⟨rfl,m',rfl,rfl,O8,aS⟩|⟨rfl,ha,U0⟩
    .have hE:=ua0 i4 i3.apart i6 i7 i11 i8 O8 rfl;have H9:=hi2 hE (aI B7 (aI j8 (aI R1 (aI dI (aI aS (aI i5 i9))))));clear hE B7 j8 R1 dI aS O8 i1 i2 i3 i4 i5 i6 i7 i8 i9 DC i11 C4 F6 Q6 F5 hb c0' c1 c2 c3 c4 c5 cz cl u3 u7;gi_wp2
     obtain⟨hE,B7,j8,R1,dI,aS,A1,dS⟩:=H9.o;obtain⟨f1,f2,-⟩:=EF (u:=iI m') (v:=iI y'.gen) (e:=iI 0) B7 j8 R1 dI oM oM km;exact LG f1 f2 oM (uZ0 B7 j8 R1 dI oM oM km xm hlt aS oM oM A1.2.1 ⟨hE.1,hE.2.1,hE.2.2.1,hE.2.2.2.1,A1.1.trans hE.2.2.2.2.1,hE.2.2.2.2.2.1.trans A1.2.1,hE.2.2.2.2.2.2.trans A1.2.2⟩) rfl
    .have H9:=hi2 ha (aI B7 (aI j8 (aI R1 (aI dI (aI U0 (aI i5 i9))))));clear ha B7 j8 R1 dI U0 i1 i2 i3 i4 i5 i6 i7 i8 i9 DC i11 C4 F6 Q6 F5 hb c0' c1 c2 c3 c4 c5 cz cl u3 u7;gi_wp2
     obtain⟨ha,B7,j8,R1,dI,U0,A1,dS⟩:=H9.o;obtain⟨f1,f2,-⟩:=EF (u:=iI p6) (v:=iI s6) (e:=iI 4) B7 j8 R1 dI oM oM km;exact LG f1 f2 oM (ge0 B7 j8 R1 dI oM oM km hlt (fD U0 A1.1) oM ha) rfl
   .skip
    refine fF _ gF rF fun K hK=>?_;go_simp;refine (oQ _ (fR.drew)).mono ?_;rintro _ W5 ⟨la,lc,rfl,hb,F5⟩;have Q6:Fq W W5:=(fR.drew).trans F5 nI;try go_simp
    refine hK _ _ (HS _ (D0.none Q6)) ?_;clear hK K;try simp only[Act.put,sI,sZ,sS]
    obtain⟨c0',c1,c2,c3,c4,c5,cz,cl⟩:=z7 (dE.T1 (D0.none (B:=B) (Q6)));refine fF _ gF rF fun K hK=>?_;go_simp;refine hK _ _ (HS _ (D0.none (Q6))) ?_;clear hK K c0' c1 c2 c3 c4 c5 cz cl;refine rQ fun K hK=>?_;refine (wF _ _ _ Q6 hb).mono ?_;rintro _ W6 ⟨p6,s6,err,rfl,F6,P8⟩;have C4:D0 B W W6:=D0.trans (D0.none Q6) F6;have j8:=dE.T1 C4;try go_simp
    refine hK _ _ (HS _ C4) ?_;clear hK K;iterate 5
     refine oP ?_ ?_ ?_;rotate_left
     .intro V hV;obtain⟨s1,s2,s3⟩:=hV;go_simp;try with_reducible rfl
    try simp only[Act.put,sI,sZ,sS]
    obtain⟨u3,u7,-⟩:=HS.o _ C4;obtain⟨c0',c1,c2,c3,c4,c5,cz,cl⟩:=z7 j8;refine fF _ gF rF fun K hK=>?_;go_simp;refine hK _ _ (by simp[go_sem, *]) ?_;clear hK K;refine oP ?_ ?_ ?_;rotate_left
    .intro V hV;obtain⟨s1,s2,s3⟩:=hV;go_simp;try with_reducible rfl
    try simp only[Act.put,sI,sZ,sS]
    refine o5 ?_;refine NoPanic.normal ?_;obtain⟨i1,i2,i3,i4,i5,i6,i7,i8,i9,DC,i11⟩:=HI.o;have B7:D0 B w W6:=D0.trans i1 C4;have R1:=C4.heap i2 dC;have dI:=(C4.keeps (B0:=W0.heap.size) fun r=>by have:=hlt r;omega).same D _ wZ DC rfl;have z0:=G0 R1 0;have zz:=X2 R1 0;have zl:=M0 R1;simp at z0;have mT:¬ bd=w.heap.size+1+1:=oM;have Kv:¬ w.heap.size+1+1=bd:=oM;rcases P8 with⟨rfl,m',rfl,rfl,O8,aS⟩|⟨rfl,ha,U0⟩
    .have hE:=ua0 i4 i3.apart i6 i7 i11 i8 O8 rfl;have H9:=hi2 hE (aI B7 (aI j8 (aI R1 (aI dI (aI aS (aI i5 i9))))));clear hE B7 j8 R1 dI aS O8 i1 i2 i3 i4 i5 i6 i7 i8 i9 DC i11 C4 F6 Q6 F5 hb c0' c1 c2 c3 c4 c5 cz cl u3 u7;gi_wp2
     obtain⟨hE,B7,j8,R1,dI,aS,A1,dS⟩:=H9.o;obtain⟨f1,f2,-⟩:=EF (u:=iI m') (v:=iI y'.gen) (e:=iI 0) B7 j8 R1 dI oM oM km;exact LG f1 f2 oM (uZ0 B7 j8 R1 dI oM oM km xm hlt aS oM oM A1.2.1 ⟨hE.1,hE.2.1,hE.2.2.1,hE.2.2.2.1,A1.1.trans hE.2.2.2.2.1,hE.2.2.2.2.2.1.trans A1.2.1,hE.2.2.2.2.2.2.trans A1.2.2⟩) rfl
    .have H9:=hi2 ha (aI B7 (aI j8 (aI R1 (aI dI (aI U0 (aI i5 i9))))));clear ha B7 j8 R1 dI U0 i1 i2 i3 i4 i5 i6 i7 i8 i9 DC i11 C4 F6 Q6 F5 hb c0' c1 c2 c3 c4 c5 cz cl u3 u7;gi_wp2
     obtain⟨ha,B7,j8,R1,dI,U0,A1,dS⟩:=H9.o;obtain⟨f1,f2,-⟩:=EF (u:=iI p6) (v:=iI s6) (e:=iI 4) B7 j8 R1 dI oM oM km;exact LG f1 f2 oM (ge0 B7 j8 R1 dI oM oM km hlt (fD U0 A1.1) oM ha) rfl
  case stop =>
   rintro D cc pre W wZ mF ⟨⟨rfl,X9⟩,hX⟩ hK;have jq:=hi2 hX hK;clear hX hK;gi_wp2
   obtain⟨hX,hK⟩:=jq.o;have FP:Fr (fun b=>b=D) W (W.putObj D (.deferred none)):=(Fr.refl (fun b=>b=D) _).putObj (fun _=>rfl) _;have nc:∀ cs t f,W.heap[D]?≠some (.cells cs t f):=fun cs t f e=>by rw[hK] at e;cases e
   have l1:=hlt .d;have l2:=hlt .bf;have l3:=hlt .bq;simp only[P0.at_] at l1 l2 l3;exact LG hX.b6 hK oM ⟨4,rfl,O0.of (uu hX.fr FP oM),.inr ⟨rfl,hX.arm,(hX.ex.my FP ⟨oM,oM,oM⟩ nc).mono oM⟩⟩ rfl
 .have qp:D0 B w W4:=D0.trans (D0.none N5.o) F4;have R1:=F4.heap ((Y0.drewN m).heap H1.1 id) dC;have z0:=G0 R1 0;have zz:=X2 R1 0;have zl:=M0 R1;simp at z0;have HX:=hi2 ha (aI U0 (aI qp R1));clear ha U0 F4 qp R1 dQ;gi_wp2
  have fG:Fr (fun b=>b=w.heap.size+1+1) W4 (W4.setCell (aA (w+1+1) 0) (iI 4)):=Fr.setCell (S:=fun b=>b=w.heap.size+1+1) fR (fun _=>rfl) _;refine⟨iI 4,by simp[results,Tryz.results50,go_sem, *],4,rfl,O0.of (Fr.alloc (uu HX.2.2.1 fG oM) _),.inr ⟨rfl,HX.1,?_⟩⟩;exact ((HX.2.1.M3 fG HX.2.2.2 dC).J0 (fR.alloc _)).mono oM
end
section
open Go.RowKit Go.Sg Go.Sg.Bits Go.Sg.r4 CP SF
abbrev D1 (base:Nat)(w w':w9):Prop:=Fr (fun b=>base<=b/\∀ c t f,w.heap[b]?=some (.cells c t f)->t ∈ 227 :: 209 :: aR) w w'
variable {b base bd bx most s sl:Nat}{w w':w9}{sp:Int}
def D1.trans {w1 w2:w9}(h:D1 base w w1)(k:D1 base w1 w2):D1 base w w2:=by
 refine Fr.trans h k fun b hb hs=>?_
 rcases Classical.em (base<=b/\∀ c t f,w.heap[b]?=some (.cells c t f)->t ∈ 227 :: 209 :: aR) with hm|hm
 .exact hm
 .have e:=Fr.block h b hb hm;exact⟨hs.1,fun c t f hc=>hs.2 c t f (e.trans hc)⟩
def D1.heap (h:D1 base w w'){c:Array Value}{t:TypeId}{f:Nat × Nat}(hb:w.heap[b]?=some (.cells c t f))(ht:t ∉ 227 :: 209 :: aR):w'.heap[b]?=some (.cells c t f):=
 Fr.heap h hb fun hs=>ht (hs.2 c t f hb)
def D1.none (F:Fq w w'):D1 base w w':=Fr.mono F fun _ _ h=>h.elim
variable {B:P0}
def uR (h:D0 B w w'):D1 B.base w w':=Fr.mono h fun b _ hs=>⟨hs.1,fun c t f hc=>jH _ (jH _ (hs.2.1 c t f hc))⟩
def D1.J0 {w0:w9}(h:D1 base w w')(hb:w0<=base)(F:Fq w0 w):Fq w0 w':=F.trans h fun b P4 hs=>by omega
def D1.own {e size n:Nat}{v:Value}{xs:List Value}(h:w.ownsRow b e size v n xs)(he:e ∉ 227 :: 209 :: aR)(F:D1 base w w'):w'.ownsRow b e size v n xs:=
 K3 h F fun g c hg hs=>he (hs.2 c e _ hg)
def tv0 {X:Nat->Prop}(h:dG w bx s bd sl most sp)(F:O0 B X w w')(hX:¬ X bx):dG w' bx s bd sl most sp:=
 Fr.heap F h fun hs=>by
  rcases hs with hs|hs
  .exact absurd (hs.2.1 _ _ _ h) dC
  .exact hX hs
def wO (h:dG w bx s bd sl most sp)(F:D0 B w w'):dG w' bx s bd sl most sp:=F.heap h dC
abbrev Bp:=Rf × List Int
abbrev X6 (L:List Bp):List Nat:=L.map fun q=>q.1.1.toNat
def YT (ro:Bool)(y:Cs)(own:List Nat)(M:Nat):Prop:=own.Nodup/\(ro=false->Live y own M)
def _root_.Go.Proofs.YtgdhaaokolfdoaaGreatDoor.Live.r {y:Cs}{own:List Nat}{M:Nat}(h:Live y own M)(ro:Bool):YT ro y own M:=⟨h.nd,fun _=>h⟩
structure Y1 (w:w9)(B:P0)(bx bd:Nat)(y:Cs)(P:J2)(a:Bool)(N:Nat)(x:P1)(E0 slots:List Rf)(L:List Bp)(sp:Int):Prop where
 st:C1 w B y P a N
 idx:dG w bx B.s bd 3 3 sp
 dir:N2 w bd B.s x
 c:dH y x E0 slots
 live:YT P.ro y (B2 x.rp E0++X6 L) 11
 bk:∀ q ∈ L,bh q.1/\y.cont q.1.1=some (q.1.2.toNat,q.2)
 len:L.length<=10
 plan:y.plan=fC
 pages:y.pages=108
 room:y.room=77
 places:y.places=8
 per:x.per=6/\x.most=3
 base:B.base<=bd/\B.base<=bx
section
variable {w w':w9}{B:P0}{bx bd:Nat}{y:Cs}{P:J2}{a:Bool}{N N':Nat}{x:P1}{E0 slots:List Rf}{L:List Bp}{sp:Int}
def Y1.T1 (h:Y1 w B bx bd y P a N x E0 slots L sp)(F:D0 B w w')(hS:C1 w' B y P a N'):Y1 w' B bx bd y P a N' x E0 slots L sp:=
 { h with st:=hS,idx:=wO h.idx F,dir:=h.dir.T1 F }
def Y1.J0 (h:Y1 w B bx bd y P a N x E0 slots L sp)(F:Fq w w'):Y1 w' B bx bd y P a N x E0 slots L sp:=
 { h with st:=h.st.J0 F,idx:=F.heap h.idx id,dir:=F.heap h.dir id }
def Y1.mono (h:Y1 w B bx bd y P a N x E0 slots L sp)(hN:N<=N')(h9:N'<=90000):Y1 w B bx bd y P a N' x E0 slots L sp:={ h with st:=h.st.mono hN h9 }
def LQ {x:P1}(h:x.per=6/\x.most=3)(hd:x.depth<=x.most):x.leaves<=2/\x.slots<=8:=by
 have h5:x.depth<=3:=oM
 have h1:2^x.depth<=2^3:=aZ dC h5;unfold P1.leaves P1.slots;rw[h.1];omega
def Y1.small (h:Y1 w B bx bd y P a N x E0 slots L sp):x.leaves<=2/\x.slots<=8/\x.depth<=3:=by
 have h1:=LQ h.per h.c.z.most.1;have h2:=h.c.z.most.1;have h3:=h.per.2;exact⟨h1.1,h1.2,oM⟩
def Y1.PR (h:Y1 w B bx bd y P a N x E0 slots L sp):(B2 x.rp E0++X6 L).length<=13:=by
 have h1:=h.small;have h2:=h.c.D7;have h3:=h.len;simp only[B2,X6,lA,lC,Z8];omega
end
section
variable {w w':w9}{B:P0}{bx bd:Nat}{y:Cs}{P:D4}{a:Bool}{N N':Nat}{x:P1}{E0 slots:List Rf}{L:List Bp}{sp:Int}
def Y1.lv (h:Y1 w B bx bd y P a N x E0 slots L sp):Live y (B2 x.rp E0++X6 L) 11:=h.live.2 rfl
def Y1.free (h:Y1 w B bx bd y P a N x E0 slots L sp):∃ j,j<y.pages/\y.taken j=false:=h.lv.free (by have:=h.PR;rw[h.pages];omega)
def dH.keeps {y y':Cs}{x:P1}{E0 slots:List Rf}(h:dH y x E0 slots)(hz:y'.room=y.room)(h0:y'.cont x.rp=y.cont x.rp)(h1:∀ r ∈ E0,y'.cont r.1=y.cont r.1):dH y' x E0 slots:=
 ⟨⟨h.z.most,by rw[hz];exact h.z.per,fun d hd=>by rw[hz];exact h.z.fits d hd,by rw[hz];exact h.z.room⟩,h.slen,h.D7,⟨h.leaf.sr,h.leaf.tr,fun i r hi=>by rw[h1 r (gM hi)];exact h.leaf.at_ i r hi⟩,h.rr,by rw[h0];exact h.root⟩
def MN (B:P0)(bx bd:Nat)(y:Cs)(P:J2)(a:Bool)(N:Nat)(depth:Nat)(slots:List Rf)(L:List Bp)(sp:Int)(w:w9)(e:Ending)(w':w9):Prop:=
 ∃ err,e = rT (iI err)/\O0 B (fun b=>b=bd) w w'/\((err=0/\∃ y' x' Y7,Y1 w' B bx bd y' P a N x' Y7 slots L sp/\x'.depth=depth/\(Like y y'/\y'.gen=y.gen/\y'.dead=y.dead))\/(err=4/\a=true/\C5 w' B y P N))
def Y1.tV0 (h:Y1 w B bx bd y P a N x E0 slots L sp){x1:P1}{sl':List Rf}{e:Ending}(hx:x1.per=x.per/\x1.most=x.most)(hu:Gf B bd x1 y P a N' (X6 L) 11 False y.cont sl' w e w'):MN B bx bd y P a N' x1.depth sl' L sp w e w':=by
 obtain⟨err,rfl,F,⟨rfl,y',tk,m,e1,e2,e3,e4,e5,e6,e7⟩|⟨rfl,ha,hd⟩⟩:=hu
 .refine⟨0,rfl,F,.inl ⟨rfl,y',_,tk,⟨e2,tv0 h.idx F fun e=>?_,e1,e3,e4.r _,fun q hq=>⟨(h.bk q hq).1,?_⟩,h.len,e7.1.plan.trans h.plan,e7.1.pages.trans h.pages,e7.1.room.trans h.room,e7.1.places.trans h.places,⟨hx.1.trans h.per.1,hx.2.trans h.per.2⟩,h.base⟩,rfl,e7⟩⟩
  .have h1:=h.dir;have h2:=h.idx;unfold N2 at h1;unfold dG at h2;rw[e,h1] at h2;cases h2
  .have hr:=(h.bk q hq).1;have:=e6 q.1.1.toNat (N4.2 ⟨q,hq,rfl⟩);rw[pZ hr.1] at this;rw[this];exact (h.bk q hq).2
 .exact⟨4,rfl,F,.inr ⟨rfl,ha,hd⟩⟩
def Y1.set (h:Y1 w B bx bd y P a N x E0 slots L sp){n c:Nat}{sa:Option Addr}{l:List Int}{r:Rf}(hl:eO w sa n c l)(PA:∀ W,D0 B w W->eO W sa n c l)(hn:n<=8)(sN:l.any (gD x.slots)=false)(hr:bh r)(hN:N+19<=90000) :
  cP 50 #[A7 bd,sL sa n c,cV r.1 r.2] w (MN B bx bd y P a (N+19) x.depth (R4 slots (l.map Int.toNat) r) L sp w):=by
 have hs:=h.small;have ho:=h.PR;have hlen:=h.len;refine (BL0 (K:=False) (c0:=y.cont) (M:=11) (rest:=X6 L) h.st h.dir h.c (by rw[h.pages];omega) h.lv (fun h=>h.elim) (fun _ _=>rfl) (by rw[h.pages];simp only[X6,Z8];omega) hl PA oM sN hr oM).mono ?_;rintro e w' hu;obtain⟨err,h1,h2,h3⟩:=h.tV0 ⟨rfl,rfl⟩ hu;refine⟨err,h1,h2,?_⟩;rcases h3 with⟨h3,y',x',t',h4,h5⟩|⟨h3,ha,hd⟩
 .exact .inl ⟨h3,y',x',t',h4.mono oM hN,h5⟩
 .exact .inr ⟨h3,ha,hd.mono oM⟩
def Y1.double (h:Y1 w B bx bd y P a N x E0 slots L sp)(hd:x.depth<3)(hN:N+100<=90000) :
  cP 49 #[A7 bd] w (MN B bx bd y P a (N+100) (x.depth+1) (ep slots) L sp w):=by
 have hm:=h.per.2;have hs:=LQ (x:={ x with depth:=x.depth+1 }) h.per (by show x.depth+1<=x.most;omega);have hlen:=h.len;refine (sW0 (K:=False) (c0:=y.cont) (M:=11) (rest:=X6 L) h.st h.dir h.c oM (by rw[h.pages];omega) h.lv (fun h=>h.elim) (fun _ _=>rfl) (by rw[h.pages];simp only[X6,Z8];omega) hN).mono ?_;rintro e w' hu;exact h.tV0 (x1:={ x with depth:=x.depth+1 }) ⟨rfl,rfl⟩ hu
variable {j m:Nat}{bs:List Int}
def Y1.lc0 (h : Y1 w B bx bd y P a N x E0 slots L sp) (ht : dF y.taken y.pages y.hand m) (F : D0 B w w') (hS : C1 w' B (y.new m bs) P a N') (hL : L.length < 10) :
    Y1 w' B bx bd (y.new m bs) P a N' x E0 slots (L++[(((m:Int),(y.gen:Int)),bs)]) sp:=by
  have hno:m ∉ B2 x.rp E0++X6 L:=fun hm=>by have:=(h.lv.tk m hm).1;rw[ht.2.1] at this;cases this
  have hne:∀ k ∈ B2 x.rp E0++X6 L,((y.new m bs).cont (k:Int))=y.cont k:=fun k hk=>by
    show dt y.cont m (some (y.gen,bs)) k=_
    rw [BJ (fun he => hno (by have : k = m := by omega
                              rw[<- this];exact hk))]
  have hg:=wP h.st;have hm:=ht.1;rw[h.pages] at hm;refine⟨hS,wO h.idx F,h.dir.T1 F,h.c.keeps rfl ?_ fun r hr=>?_,?_,fun q hq=>?_,by simp;omega,h.plan,h.pages,h.room,h.places,h.per,h.base⟩
  . have:=hne x.rp.toNat (by simp[B2]);rwa [pZ h.c.rr.1] at this
  . have:=hne r.1.toNat (by simp only[B2,X5,d9,N4];exact .inl (.inr ⟨r,hr,rfl⟩));rwa [pZ (h.c.leaf.tr r hr).1] at this
  . have:=h.lv.new (bs:=bs) h.st.apart ht;rw[show B2 x.rp E0++X6 L++[m]=B2 x.rp E0++X6 (L++[(((m:Int),(y.gen:Int)),bs)]) by simp[X6]] at this;exact this.r _
  . rcases X5.1 hq with hq|hq
    . have hr:=(h.bk q hq).1;have:=hne q.1.1.toNat (lK _ (N4.2 ⟨q,hq,rfl⟩));rw[pZ hr.1] at this;exact⟨hr,by rw[this];exact (h.bk q hq).2⟩
    . simp at hq;subst hq;exact⟨yW oM hg,by simp[Cs.new,dt]⟩
variable {q:Bp}
def Y1.page (h:Y1 w B bx bd y P a N x E0 slots L sp)(hj:L[j]?=some q):(B2 x.rp E0++X6 L)[(B2 x.rp E0).length+j]?=some q.1.1.toNat:=by
 rw[kN oM,Mm];simp[X6,hj]
def Y1.rF0 (h:Y1 w B bx bd y P a N x E0 slots L sp)(hj:L[j]?=some q)(hm:kX y q.1.1.toNat m)(F:D0 B w w')(hS:C1 w' B (y.put q.1.1.toNat m bs) P a N') :
  Y1 w' B bx bd (y.put q.1.1.toNat m bs) P a N' x E0 slots (L.set j (((m:Int),(y.gen:Int)),bs)) sp:=by
 have fd:=h.page hj;have aW:=gM fd;have hjl:=(gI.1 hj).1;have hl:=(EP y q.1.1.toNat m bs);have hne:∀ k ∈ B2 x.rp E0++X6 L,k≠q.1.1.toNat->(y.put q.1.1.toNat m bs).cont (k:Int)=y.cont k:=fun k hk L8=>Ih h.lv hm hk L8 bs
 have eA:=yh.1 h.lv.nd;have hqm:q.1.1.toNat ∈ X6 L:=N4.2 ⟨q,gM hj,rfl⟩;have hg:=wP h.st;have hlt:=hm.lt (h.lv.lt _ aW);rw[h.pages] at hlt;refine⟨hS,wO h.idx F,h.dir.T1 F,h.c.keeps hl.1.room ?_ fun r hr=>?_,?_,fun z hz=>?_,by simp;exact h.len,hl.1.plan.trans h.plan,hl.1.pages.trans h.pages,hl.1.room.trans h.room,hl.1.places.trans h.places,h.per,h.base⟩
 .have hp:x.rp.toNat ∈ B2 x.rp E0:=by simp[B2]
  have:=hne x.rp.toNat (pY _ hp) (eA.2.2 _ hp _ hqm);rwa [pZ h.c.rr.1] at this
 .have hp:r.1.toNat ∈ B2 x.rp E0:=by simp only[B2,d9,N4];exact .inr ⟨r,hr,rfl⟩
  have:=hne r.1.toNat (pY _ hp) (eA.2.2 _ hp _ hqm);rwa [pZ (h.c.leaf.tr r hr).1] at this
 .have hL:=h.lv.put (bs:=bs) h.st.apart aW hm;rw[Oj h.lv.nd fd,List.set_append_right _ _ oM,Mm] at hL;rw[show (X6 L).set j m=X6 (L.set j (((m:Int),(y.gen:Int)),bs)) by simp[X6,List.map_set]] at hL;exact hL.r _
 .obtain⟨i,hi⟩:=ou.1 hz;rw[ug] at hi;by_cases e:j=i
  .subst e;rw[if_pos rfl,if_pos hjl] at hi;cases hi;exact⟨yW oM hg,by rw[hm.cont];simp[dt]⟩
  .rw[if_neg e] at hi;have Wq:=gM hi;have hr:=(h.bk z Wq).1;have bX:z.1.1.toNat≠q.1.1.toNat:=fun he=>by
    have h1:=h.page hi;rw[he] at h1;have:=(FM (gI.1 h1).1 h.lv.nd).1 (h1.trans fd.symm);omega
   have:=hne z.1.1.toNat (lK _ (N4.2 ⟨z,Wq,rfl⟩)) bX;rw[pZ hr.1] at this;exact⟨hr,by rw[this];exact (h.bk z Wq).2⟩
end
end
section
open Go.RowKit Go.Sg CP SF
def ab (x:Bt):Bool:=(decide (0<=x.rg) && decide (x.rg<=1099511627776)) && ((decide (0<=x.at_) && decide (x.at_<=65535)) && (decide (0<=x.sz) && decide (x.sz<=65535)))
def sO0 (x:Bt)(w:w9):cP 245 #[E8 x] w (bt (bO (ab x)) w):=by
 obtain⟨w1,I0⟩:=eX (w.alloc (.cells #[iU x.hash,iI x.rg,iI x.at_,iI x.sz] 118))
 have b1:=fB I0
 have HF:=hid (show Fq w w1 by rw[<- I0];exact fR.alloc _);obtain⟨t0,t1,t2,t3,tz,tl⟩:=D8 b1;have HW:=hid I0;clear I0 b1;obtain⟨b0,d7⟩:∃ b,(decide (0<=x.rg) && decide (x.rg<=1099511627776))=b:=⟨_,rfl⟩
 obtain⟨c0,mM⟩:∃ b,(decide (0<=x.at_) && decide (x.at_<=65535))=b:=⟨_,rfl⟩
 obtain⟨d0,kA⟩:∃ b,(decide (0<=x.sz) && decide (x.sz<=65535))=b:=⟨_,rfl⟩
 have HR:=hid (show ab x=(b0 && (c0 && d0)) by unfold ab;rw[d7,mM,kA]);have H1:=hid (show cP 241 #[iI x.rg,iI 1099511627776] w1 (Af b0 w1) by rw[<- d7];exact NY _ _ _);have H2:=hid (show cP 241 #[iI x.at_,iI 65535] w1 (Af c0 w1) by rw[<- mM];exact NY _ _ _);have H3:=hid (show cP 241 #[iI x.sz,iI 65535] w1 (Af d0 w1) by rw[<- kA];exact NY _ _ _);clear d7 mM kA;go_enter func245,ntmps245;go_upto_region 1 with fail
 rw[HW];go_wp2_with fail
 refine H1.mono ?_;rintro e _ ⟨rfl,rfl⟩;cases b0 with
 | false =>
  go_wp2_with fail
  go_ret;exact⟨by rw[HR];rfl,HF.o⟩
 | true =>
  go_wp2_with fail
  refine H2.mono ?_;rintro e _ ⟨rfl,rfl⟩;cases c0 with
  | false =>
   go_wp2_with fail
   go_ret;exact⟨by rw[HR];rfl,HF.o⟩
  | true =>
   go_wp2_with fail
   refine H3.mono ?_;rintro e _ ⟨rfl,rfl⟩;go_wp2_with fail
   go_ret;exact⟨by rw[HR];cases d0 <;> rfl,HF.o⟩
variable {P:Program}{md:Region.Mode}{ops:Array Oper}{Q:Exit->Act->World->Prop}{S:World->Prop}{i:Nat}{p:Sg.Pl}{a:Act}{w:w9}
def pc0 (o:Oper)(ho:ops[i]?=some o)(hw:Region.wanted o (yielded ops a.tmps)=false)(h:bP P md ops Q S p (a.put o.dst undef) w):bP P md ops Q S (.rd i p) a w:=
 ⟨undef,o,ho,.inr ⟨hw,rfl⟩,h⟩
def TM (o:Oper)(ho:ops[i]?=some o)(hw:Region.wanted o (yielded ops a.tmps)=false)(hS:S w)(h:bP P md ops Q S p (a.put o.dst undef) w):bP P md ops Q S (.op i p) a w:=by
 show wpOp P ops Q i _ a w;unfold wpOp;simp only[ho,hw];exact⟨hS,h⟩
def uV (d p:Nat)(x:Bt):Bool:=!ab x || !decide (X0 x.hash d=p)
def uE0 {b3 d p:Nat}{v:Value}(hb:w.heap[b3]?=some (.cells #[iI d,iI p,v] 129))(hd:d<=20)(x:Bt)(hx:x.hash<18446744073709551616) :
  cP 244 #[E8 x,pO b3] w (bt (bO (uV d p x)) w):=by
 obtain⟨w1,I0⟩:=eX (w.alloc (.cells #[iU x.hash,iI x.rg,iI x.at_,iI x.sz] 118))
 have b1:=fB I0
 have F1:=fA I0
 have HF:=hid F1;have HC:=hid (fun V (F:Fq w1 V)=>show (V.cell? w=some (iU x.hash)/\V.cell? (aA w 1)=some (iI x.rg)/\V.cell? (aA w 2)=some (iI x.at_)/\V.cell? (aA w 3)=some (iI x.sz))/\(V.cell? b3=some (iI d)/\V.cell? (aA b3 1)=some (iI p)) by
  obtain⟨t0,t1,t2,t3,tz,tl⟩:=D8 (F.heap b1 id);obtain⟨c0,c1,c2,cz,cl⟩:=cells3 (F.heap (F1.heap hb id) id);exact⟨⟨t0,t1,t2,t3⟩,c0,c1⟩)
 obtain⟨⟨t0,t1,t2,t3⟩,c0,c1⟩:=HC.o _ fR;have HP:=hid fun V=>WB x.hash d hx hd V;obtain⟨q,hq⟩:=eX (X0 x.hash d)
 obtain⟨rb,PG⟩:=eX (ab x)
 obtain⟨qb,PF⟩:=eX (decide (q=p))
 have HR:=hid (show uV d p x=(!rb || !qb) by unfold uV;rw[PG,hq,PF]);have Nr:=hid (fun V=>show cP 245 #[E8 x] V (bt (bO rb) V) by rw[<- PG];exact sO0 x V);rw[hq] at HP;have HW:=hid I0;have FG:Fq w1 w1.drew:=fR.drew;clear I0 b1 F1 hb hq PG;go_enter func244,ntmps244;go_upto_region 1 with fail
 rw[HW];cases rb with
 | false =>
  refine wp_region_noPanic ?_;refine q8 (fun V=>Fq w1 V) (.rd 0 (.op 1 (.rd 2 (.rd 3 (.rd 4 (.rd 5 (.rd 6 (.rd 7 (.rd 9 (.rd 10 (.op 8 (.rd 11 (.rd 12 (.rd 13 .done)))))))))))))) kF kF kF (fun _ _ _ _ _ h=>h) FG ?_;refine oP ?_ ?_ ?_;rotate_left
  .intro V hV;obtain⟨⟨t0,t1,t2,t3⟩,c0,c1⟩:=HC.o V hV;go_simp;try with_reducible rfl
  refine rQ fun K hK=>?_;refine (Nr _).mono ?_;rintro _ V1 ⟨rfl,G1⟩;have FG:=FG.trans G1 nI;try go_simp
  refine hK _ _ FG ?_;clear hK K;iterate 2
   refine oP ?_ ?_ ?_;rotate_left
   .intro V hV;obtain⟨⟨t0,t1,t2,t3⟩,c0,c1⟩:=HC.o V hV;go_simp;try with_reducible rfl
  iterate 6
   try simp only[Act.put,sI,sZ,sS]
   refine pc0 _ gF rF ?_
  try simp only[Act.put,sI,sZ,sS]
  refine TM _ gF rF FG ?_;try simp only[Act.put,sI,sZ,sS]
  refine pc0 _ gF rF ?_;iterate 2
   refine oP ?_ ?_ ?_;rotate_left
   .intro V hV;obtain⟨⟨t0,t1,t2,t3⟩,c0,c1⟩:=HC.o V hV;go_simp;try with_reducible rfl
  try simp only[Act.put,sI,sZ,sS]
  refine o5 ?_;refine NoPanic.normal ?_;go_wp2_with fail
  go_ret;exact⟨by rw[HR];rfl,HF.trans FG nI⟩
 | true =>
  refine wp_region_noPanic ?_;refine q8 (fun V=>Fq w1 V) (.rd 0 (.op 1 (.rd 2 (.rd 3 (.rd 4 (.rd 5 (.rd 6 (.rd 7 (.rd 9 (.rd 10 (.op 8 (.rd 11 (.rd 12 (.rd 13 .done)))))))))))))) kF kF kF (fun _ _ _ _ _ h=>h) FG ?_;refine oP ?_ ?_ ?_;rotate_left
  .intro V hV;obtain⟨⟨t0,t1,t2,t3⟩,c0,c1⟩:=HC.o V hV;go_simp;try with_reducible rfl
  refine rQ fun K hK=>?_;refine (Nr _).mono ?_;rintro _ V1 ⟨rfl,G1⟩;have FG:=FG.trans G1 nI;try go_simp
  refine hK _ _ FG ?_;clear hK K;iterate 8
   refine oP ?_ ?_ ?_;rotate_left
   .intro V hV;obtain⟨⟨t0,t1,t2,t3⟩,c0,c1⟩:=HC.o V hV;go_simp;try with_reducible rfl
  refine rQ fun K hK=>?_;refine (HP _).mono ?_;rintro _ _ ⟨rfl,rfl⟩;try go_simp
  refine hK _ _ FG ?_;clear hK K;iterate 3
   refine oP ?_ ?_ ?_;rotate_left
   .intro V hV;obtain⟨⟨t0,t1,t2,t3⟩,c0,c1⟩:=HC.o V hV;go_simp;try with_reducible rfl
  try simp only[Act.put,sI,sZ,sS]
  refine o5 ?_;refine NoPanic.normal ?_;go_wp2_with fail
  go_ret;exact⟨by rw[HR,<- PF];simp[bne];rw[Bool.eq_iff_iff,beq_iff_eq,decide_eq_true_iff];omega,HF.trans FG nI⟩
