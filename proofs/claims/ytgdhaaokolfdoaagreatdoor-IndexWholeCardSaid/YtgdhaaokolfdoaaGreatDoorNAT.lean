/- A pack of texts. Conditions: those that each names. -/
import Derived.Test.YtgdhaaokolfdoaaGreatDoorNAS
set_option maxHeartbeats 16000000
set_option maxRecDepth 100000
set_option linter.all false
namespace Go.Proofs.YtgdhaaokolfdoaaGreatDoor
open Tryz
section
open Go.RowKit Go.Sg Go.Sg.Bits Go.Sg.r4 CP SF
variable {W w:w9}{N bd s:Nat}{x:P1}{a:Bool}
def XH (h:N2 W bd s x)(p q:Int):N2 ((W.setCell (aA bd 4) (iI p)).setCell (aA bd 5) (iI q)) bd s { x with rp:=p,rs:=q }:=by
 unfold N2;rw[hsc _ _ _ _ (hsc _ _ _ _ h)];rfl
def Xc {k:Nat}(x y:Value):Fr (fun b=>b=k) W ((W.setCell (aA k 4) x).setCell (aA k 5) y):=
 Fr.setCell (S:=fun b=>b=k) (Fr.setCell (S:=fun b=>b=k) fR (fun _=>rfl) _) (fun _=>rfl) _
variable {B:P0}
def ja0 (F:D0 B w W)(h:w<=bd)(x y:Value):D0 B w ((W.setCell (aA bd 4) x).setCell (aA bd 5) y):=
 Fr.setCell (Fr.setCell F (fun hb=>absurd hb (vI.2 h)) _) (fun hb=>absurd hb (vI.2 h)) _
variable {y:Cs}{P:J2}
def WG (h:C1 W B y P a N)(hD:N2 W bd s x)(h0:0<bd)(u v:Value):C1 ((W.setCell (aA bd 4) u).setCell (aA bd 5) v) B y P a N:=
 h.M3 (Xc u v) hD dC h0
def Tx (h:C5 W B y P N)(hD:N2 W bd s x)(u v:Value):C5 ((W.setCell (aA bd 4) u).setCell (aA bd 5) v) B y P N:=
 h.M3 (Xc u v) hD dC
def fD {y':Cs}(h:C5 w B y P N)(k:Like y' y):C5 w B y' P N:=by
 obtain⟨D,h1,h2,h3,h4,h5⟩:=h.ex;exact⟨D,h1,h2,h3,h4.trans k.C0,h5.trans k.size⟩
def wK0 (w:w9)(p s:Int):vT (w.alloc (.cells #[iI p,iI s] 35)) (some ⟨w,0,none⟩) [(p,s)]:=⟨fun i x hx=>by
 have hb:(w.alloc (.cells #[iI p,iI s] 35)).heap[w.heap.size]?=some (.cells #[iI p,iI s] 35):=han _ _;obtain⟨c0,c1,-,cl⟩:=cells2 hb;cases i with
 | zero=>simp at hx;subst hx;exact⟨_,_,rfl,cl,c0,c1⟩
 | succ i=>simp at hx⟩
def pq0 (w:w9)(r:Rf)(hr:bh r):cP 119 #[sL w 1 1] (w.alloc (.cells #[iI r.1,iI r.2] 35)) (YQ [r] (w.alloc (.cells #[iI r.1,iI r.2] 35))):=
 LP (wK0 w r.1 r.2) (by simpa using hr) rfl oM
def CU0 (B:P0)(y:Cs)(P:J2)(a:Bool)(N:Nat)(r:Rf)(w:w9)(e:Ending)(w':w9):Prop:=
 ∃ v err,e = rT (tU #[v,iI err])/\D0 B w w'/\((err=0/\∃ bd m1 m2:Nat,v=A7 bd/\w<=bd/\N2 w' bd B.s { yS y.plan with rp:=m2,rs:=y.gen }/\dF y.taken y.pages y.hand m1 /\
  dF (y.new m1 (P3 [r])).taken y.pages (y.new m1 (P3 [r])).hand m2/\C1 w' B ((y.new m1 (P3 [r])).new m2 (P3 [((m1:Int),(y.gen:Int))])) P a (N+2))\/(err=4/\a=true/\C5 w' B y P (N+2)))
def nJ0 {P:D4}{M:Nat}{own:List Nat}(h:C1 w B y P a N)(O3:eS y.plan=true)(hL:Live y own M)(hM:own.length+1+2*M<y.pages)(X4:y.pages<=2147483647)(mV:12<=y.room)(r:Rf)(hr:bh r)(hN:N+2<=90000) :
  cP 47 #[B.ptr,cV r.1 r.2] w (CU0 B y P a N r w):=by
 obtain⟨w1,I0⟩:=eX (w.alloc (.cells #[iI r.1,iI r.2] 35))
 have b1:=fB I0
 have UT:=fA I0
 have dL:y.gen<9223372036854775808:=by obtain⟨x,c,hS,rfl,hi⟩:=h.ex;exact LY hS
 obtain⟨e0,e1,ez,el⟩:=cells2 b1;have hrt:=Tl r.1 r.2 w1;unfold QA at hrt;rw[show si r.1 r.2=true by obtain⟨h1,h2,h3,h4⟩:=hr;simp[si];omega] at hrt;have yI:=hid hrt;have R6:=hid I0;have E1:=hid UT;have I3:=hid b1;have kQ:=hid fun W (F:Fq w W)=>oH0 (h.J0 F) O3;have HS:=hid h;have HL:=hid hL;have h0:0<w.heap.size:=by have:=h.base;have:=h.jr;omega
 have HG:=hid (show (0:Int)<=(y.gen:Int)/\(y.gen:Int)<9223372036854775808 by omega);have HR:=hid hr;clear I0 b1 hrt h UT O3 hL hr;go_enter func47,ntmps47;go_wp2_with (rw[R6];go_at_call 117;refine yI.mono ?_)
 rintro e W2 ⟨rfl,F2⟩;have Y0:=hid (E1.trans F2 nI);have bD:=hid (F2.heap I3 id);clear F2 yI e0 e1 ez el;go_wp2_with (go_at_call 118;refine (kQ _ Y0.o).mono ?_)
 rintro e W3 ⟨bd,rfl,hD,iR,F3⟩;have N5:=hid (Y0.trans F3 nI);have b3:=F3.heap bD id;obtain⟨e0,e1,ez,el⟩:=cells2 b3;have HD3:=hid hD;have MW:=hid (nT Y0.size iR);have cN:=hid b3;clear F3 hD b3 iR;go_upto_region 4 with fail
 have F4:Fq W3 (W3.alloc (.cells #[iI r.1,iI r.2] 35)):=fR.alloc _;have oQ:=hid (pq0 W3 r HR.o);have p8:=hid (N5.trans F4 nI);have GC:=hid (F4.heap HD3 id);clear F4;go_wp2_with (go_at_call 119;refine oQ.mono ?_)
 rintro e W5 ⟨la,lc,rfl,hb,F5⟩;have fT:=hid (p8.trans F5 nI);have HD5:=hid (F5.heap GC id);have aJ:=hid (FY (HS.J0 fT.o) (hb.inp B) (wS _) (by simpa using mV) (HL.free oM) oM);clear F5 hb e0 e1 ez el;go_wp2_with (go_at_call 22;refine aJ.mono ?_)
 rintro e W6 ⟨p1,s1,err,rfl,F6,⟨rfl,m1,rfl,rfl,Fx,aS⟩|⟨rfl,ha,U0⟩⟩
 .have kP:D0 B w W6:=D0.trans (D0.none fT.o) F6;have wg:=hid kP;have ZI:=hid (N2.T1 HD5 F6);have gh:=HL.new (bs:=P3 [r]) HS.apart Fx;have oT:=hi2 aS (aI Fx gh);have vw:=Fx.1;have bF:=hid (show bh ((m1:Int),(y.gen:Int)) from⟨by simp,by simp only;omega,HG.1,HG.2⟩);clear F6 aS Fx gh kP;go_upto_region 7 with fail
  obtain⟨W7,mH⟩:=eX (W6.alloc (.cells #[iI m1,iI y.gen] 35))
  rw[mH];have F7:=fA mH
  have b7:=fB mH
  obtain⟨e0,e1,ez,el⟩:=cells2 b7;have lX:=hid F7;have HD7:=hid (F7.heap ZI id);have F8:Fq W7 (W7.alloc (.cells #[iI m1,iI y.gen] 35)):=fR.alloc _;have HF8:=hid (F7.trans F8 nI);have Sm:=hid (pq0 W7 ((m1:Int),(y.gen:Int)) bF.o);clear F7 b7 mH F8 oQ aJ;go_wp2_with (go_at_call 119;refine Sm.mono ?_)
  rintro e W9 ⟨la2,lc2,rfl,L4,F9⟩;have uH:=hid (HF8.trans F9 nI);have qE:=hid (FY (oT.1.J0 uH.o) (L4.inp B) (wS _) (by show 12*1<=y.room;omega) (oT.2.2.free (by rw[lA];exact hM)) oM);have HD9:=hid (uH.heap ZI id);clear F9 L4 e0 e1 ez el;go_wp2_with (go_at_call 22;refine qE.mono ?_)
  rintro e W10 ⟨p2,s2,err,rfl,F10,M6⟩;have Gn:D0 B w W10:=D0.trans wg (D0.trans (D0.none uH.o) F10);have BX:=N2.T1 HD9 F10;have we:=hid Gn;obtain⟨c0,c1,c2,c3,c4,c5,cz,cl⟩:=z7 BX;have AS:=hid BX;have HX:=hid M6;clear F10 Gn BX M6;rcases HX.o with⟨rfl,m2,rfl,rfl,zZ,Ji⟩|⟨rfl,ha,U0⟩
  .have HY:=hi2 zZ Ji;have db:(y.new m1 (P3 [r])).gen=y.gen:=rfl;rw[db];clear zZ Ji;go_wp2_with fail
   go_ret2;refine⟨_,0,rfl,ja0 we MW _ _,.inl ⟨rfl,bd,m1,m2,rfl,MW.o,XH AS _ _,oT.2.1,HY.1,WG HY.2 AS (by have:=MW.o;omega) _ _⟩⟩
  .have HY:=hi2 ha U0;clear ha U0;go_wp2_with fail
   go_ret2;refine⟨_,4,rfl,ja0 we MW _ _,.inr ⟨rfl,HY.1,Tx ((fD HY.2 (show Like y (y.new m1 (P3 [r])) from⟨rfl,rfl,rfl,rfl,rfl,rfl,rfl⟩)).mono oM) AS _ _⟩⟩
 .have HX:=hi2 ha (aI U0 (D0.trans (D0.none fT.o) F6));clear U0 ha F6;go_wp2_with fail
  go_ret2;exact⟨_,4,rfl,Fr.alloc HX.2.2 _,.inr ⟨rfl,HX.1,(HX.2.1.J0 (fR.alloc _)).mono oM⟩⟩
def rr0 {p:R8}:∀ W,(Instr.field 31 p.val 5).run prog W = .ok (iI p.depth) W:=fun W=>by kernel_rfl
def CS0 (s:Nat)(x:P1)(w:w9)(e:Ending)(w':w9):Prop:=∃ bd,e = rT (tU #[A7 bd,iI 0])/\N2 w' bd s x/\w.heap.size<=bd/\Fq w w'
def oz0 (h:C1 w B y P a N)(O3:eS y.plan=true)(depth:Nat)(p s:Int)(hd:(depth:Int)<=y.plan.depth) :
  cP 53 #[B.ptr,iI depth,cV p s] w (CS0 B.s { yS y.plan with depth:=depth,rp:=p,rs:=s } w):=by
 have ei:=hid fun W (F:Fq w W)=>Yx (h.J0 F);have kQ:=hid fun W (F:Fq w W)=>oH0 (h.J0 F) O3;have lD:=rr0 (p:=y.plan);obtain⟨w1,I0⟩:=eX (w.alloc (.cells #[iI p,iI s] 35))
 have b1:=fB I0
 have E1:=hid (show Fq w w1 by rw[<- I0];exact fR.alloc _);have I3:=hid b1;have R6:=hid I0;have d1:decide ((depth:Int)<0)=false:=decide_eq_false oM;have d2:decide (y.plan.depth<(depth:Int))=false:=decide_eq_false oM;clear h hd I0 b1 O3;go_enter func53,ntmps53;go_wp2_with (rw[R6];go_at_call 33;refine (ei _ E1.o).mono ?_)
 rintro e W2 ⟨rfl,F2⟩;have Y0:=hid (E1.trans F2 nI);have bD:=hid (F2.heap I3 id);clear F2;go_wp2_with (go_at_call 118;refine (kQ _ Y0.o).mono ?_)
 rintro e W3 ⟨bd,rfl,hD,iR,F3⟩;have b3:=F3.heap bD id;have hne:¬ bd=w.heap.size:=by have:=M0 bD.o;omega
 obtain⟨e0,e1,ez,el⟩:=cells2 b3;obtain⟨c0,c1,c2,c3,c4,c5,cz,cl⟩:=z7 hD;have H3:=hi2 hD (aI (nT Y0.size iR) (Y0.trans F3 nI));clear hD iR F3 b3;go_upto_region 4 with fail
 go_region
 all_goals (go_wp2_with fail)
 all_goals go_ret2
 all_goals (
  refine⟨bd,rfl,?_,H3.2.1,?_⟩
  .have hb:=H3.1;unfold N2 at hb ⊢;try simp only[heap_drew]
   rw[hsc _ _ _ _ (hsc _ _ _ _ (hsc _ _ _ _ hb))];rfl
  .have hb:=H3.2.1;try apply Fr.drew
   refine Fr.setCell (Fr.setCell (Fr.setCell ?_ (fun P4=>absurd P4 (vI.2 hb)) _) (fun P4=>absurd P4 (vI.2 hb)) _) (fun P4=>absurd P4 (vI.2 hb)) _;exact H3.2.2)
end
section
open Go.RowKit Go.Sg Go.Shelf
attribute [local go_sem] Oper.semAt_some
def qN (b off n per j:Nat):Value:=sL (aP b (off+j*per*2)) (min per (n-j*per)) (min per (n-j*per))
def Hv:(prog.info? 33).map (fun i=>(i.zero,i.size,i.bytes))=some (some (sL none 0 0),1,24):=by kernel_rfl
def Bm0 (b off n c q:Nat)(h:q<n)(hc:n<=c)(W:w9):(Instr.slice 33 (sL (aP b off) n c) (some (iI q)) none none).run prog W = .ok (sL (aP b (off+q*2)) (n-q) (c-q)) W:=by
 rw[Bu 33 2 kF (fun W=>by kernel_rfl) _ n c q oM W];rw[if_neg oM];simp[Addr.add]
def Dv0 (b off n c q e:Nat)(h0:0<e)(hc:q+e<=c)(W:w9):(Instr.slice 33 (sL (aP b off) n c) (some (iI q)) (some (iI ((q:Int)+(e:Int)))) (some (iI ((q:Int)+(e:Int))))).run prog W = .ok (sL (aP b (off+q*2)) e e) W:=by
 rw[run_slice_lhm W 33 (some ⟨b,off,none⟩) n c kF .i64 .i64 .i64 q ((q:Int)+(e:Int)) ((q:Int)+(e:Int)) oM oM oM oM];rw[show (sizeOf (prog.elem 33)).run prog W = .ok 2 W by kernel_rfl];have e1:((q:Int)+(e:Int)).toNat=q+e:=oM
 simp only[Result.andThen_ok,sliced,e1,jK,Mm];rw[if_neg oM];simp[Addr.add]
def sn0 (a:Option Addr)(n c per:Nat)(hp:1<=per)(w:w9) :
  cP 239 #[sL a n c,iI per] w fun e w'=>e = rT (.func (.func 272) #[] #[pO w,pO (aP (w+1) 0)])/\(w.alloc (.cells #[sL a n c] 33)).alloc (.cells #[iI per] 3)=w':=by
 obtain⟨w1,I0⟩:=eX ((w.alloc (.cells #[sL a n c] 33)).alloc (.cells #[iI per] 3))
 obtain⟨b0,b1,F1⟩:=n9 I0;have hd:decide ((per:Int)<1)=false:=by simp;omega
 have c0:=G0 b1 0;simp at c0;have HW:=hid I0;clear b0 b1 F1 I0;go_enter func239,ntmps239;go_wp2_with fail
 rw[HW];go_wp2_with fail
 go_ret;exact⟨rfl,rfl⟩
abbrev Zm (b off n per:Nat)(j:Nat):Array Value:=#[qN b off n per j]
def Tb (bs bn:Nat)(W W':w9):Prop:=W'.heap[bs]?=W.heap[bs]?/\W'.heap[bn]?=W.heap[bn]?
variable {w:w9}{b c m n off per:Nat}
def lQ0 {bs bn:Nat}(hs:w.heap[bs]?=some (.cells #[sL (aP b off) n c] 33))(vC:w.heap[bn]?=some (.cells #[iI per] 3))(je:1<=per/\per<=1000)(hn:n<=100000)(hc:n<=c)(hm:∀ k,k<m↔k*per<n) :
  SeqStopsK Fence.wide 9 prog 272 #[pO bs,pO bn] (Zm b off n per) (Tb bs bn) (fun xs=>xs=List.range m) (fun _=>True) m w:=fun l J Jx W hW hJ _ hY h0=>by
 have fO:=(hW.block bs (M0 hs)).trans hs;have Kq:=(hW.block bn (M0 vC)).trans vC;have HX:=hi2 fO Kq;have HM:=hid hm;clear hs vC hW fO Kq hm;refine callsIn_of_wp func272 rfl trivial ?_ rfl;simp only[ntmps272,zA,lC,cJ,Nat.reduceAdd,Nat.reduceSub,dV,dW,dZ,dX,C7,ak];gi_wp2
 gi_loopw [4] (fun i wr=>∃ k:Nat,k<=m/\i = iI ((k*per:Nat):Int)/\J (List.range k) wr/\Tb bs bn W wr) fun i _=>(n+per:Nat)-(intOf i).toNat
 case atStart=>exact⟨0,C3 _,by simp,h0,rfl,rfl⟩
 case round =>
  obtain⟨k,hk,rfl,gY,M4⟩:=hrel;obtain⟨q,hq⟩:=eX (k*per)
  have cs:=G0 (M4.1.trans HX.1) 0;have cn:=G0 (M4.2.trans HX.2) 0;simp at cs cn;have HK:=hid M4;have aw:=HM.o k;rw[hq] at aw;have HQ:=hid hq;rw[hq];clear hq M4;by_cases hlt:q<n
  .have Kc:k<m:=aw.2 hlt;have hd:decide ((q:Int)<(n:Int))=true:=by simp;omega
   obtain⟨E,hE⟩:=eX (min per (n-q))
   have Z5:0<E/\E<=per/\q+E<=n:=oM
   have hmin:min (per:Int) ((n-q:Nat):Int)=(E:Int):=oM
   have hsl1:=Bm0 b off n c q hlt hc;have hsl2:=Dv0 b off n c q E Z5.1 oM;have hch:qN b off n per k = sL (aP b (off+q*2)) E E:=by
    have:=HQ.o;unfold qN;rw[this,hE]
   have HE:=hid hE;have ZU:=hid Kc;have HJ:=hid gY;clear aw hE gY Kc;gi_wp2
   gi_big_quiet_th (fail)
   obtain⟨fn,tmps,assign,body,hy,hR⟩:=hY _ k (wr.drewN nq) (Up hJ HJ (fR.drewN nq)) (by simpa using ZU.o);dsimp only[Zm] at hy;rw[hch] at hy;have cs':(wr.drewN nq).cell? bs=some (sL (aP b off) n c):=cs;gi_wp2
   refine hR.mono ?_;rintro e W3 (⟨rfl,o6,Q2⟩|⟨rfl,N3⟩)
   .have rJ:=hid o6;have lY:=hid Q2;have cn3:=G0 ((show W3.heap[bn]?=wr.heap[bn]? from Q2.2).trans (HK.2.trans HX.2)) 0;simp at cn3;clear o6 Q2;gi_wp2
    go_roundw;case rel =>
     have he:k*per+per=(k+1)*per:=(by rw[nb]);refine⟨k+1,ZU.o,?_,by rw[Ah];exact rJ.o,lY.1.trans HK.1,lY.2.trans HK.2⟩;rw[<- he,HQ];go_num
    case measure=>exact wM
   .have fV:=hid N3;clear N3;gi_wp2
    refine bodyPost_ret (results_none rfl _ _ _) rfl ?_;exact⟨⟨_,rfl⟩,.inr ⟨_,trivial,fV.o⟩⟩
  .obtain rfl:k=m:=by
    have:=mt aw.1 oM;omega
   have hd:decide ((q:Int)<(n:Int))=false:=by simp;omega
   clear aw;gi_wp2
   go_end0
   exact⟨⟨_,rfl⟩,.inl ⟨_,rfl,gY⟩⟩
def BX0 {base z e size:Nat}{v:Value}{xs:List Value}(h:w.ownsRow base e size v n xs)(hg:∀ g,some g=v.ownBlock->z<=g):w.ownsRow z e size v n xs:=by
 obtain⟨hl,h0|⟨g,cap,cur,hv,hb,r⟩⟩:=h
 .exact⟨hl,.inl h0⟩
 .exact⟨hl,.inr ⟨g,cap,cur,hv,hg g (by rw[hv];rfl),r⟩⟩
def AX0 (w:w9)(z b off n per:Nat)(pre:List Nat)(W:w9):Prop:=
 ∃ v,Boxed W w.heap.size 291 v/\W.ownsRow w 33 1 v pre.length (pre.map (qN b off n per))/\∀ g,some g=v.ownBlock->z<=g
def yj0 (b off n per m:Nat)(w:w9)(e:Ending)(w':w9):Prop:=∃ v,e = rT v/\w'.ownsRow w 33 1 v m ((List.range m).map (qN b off n per))/\Fq w w'
def sk0 (je:1<=per/\per<=1000)(hn:n<=100000)(hc:n<=c)(hm:∀ k,k<m↔k*per<n)(zP:m<=100000) :
  cP 184 #[sL (aP b off) n c,iI per] w (yj0 b off n per m w):=by
 obtain⟨i0,A3,J1,M1,O1⟩:=info_parts Hv;refine (callsIn_wide (n:=10)).1 ?_;have F:=hid (sn0 (some ⟨b,off,none⟩) n c per je.1 (w.alloc (.cells #[sL none 0 0] 291)));refine callsIn_of_wp_marks func184 rfl trivial ?_ rfl;simp only[ntmps184,zA,lC,cJ,Nat.reduceAdd,Nat.reduceSub,dV,dW,dZ,dX,C7,ak];gi_wp2_with (gi_at_call 239;refine (callsIn_wide.2 F.o).mono ?_;rintro e w' ⟨rfl,rfl⟩)
 obtain⟨W0,B4⟩:=eX (((w.alloc (.cells #[sL none 0 0] 291)).alloc (.cells #[sL (aP b off) n c] 33)).alloc (.cells #[iI per] 3))
 have bu:Fq w W0:=by rw[<- B4];exact (((Fr.refl _ w).alloc _).alloc _).alloc _
 have hsz:W0.heap.size=w.heap.size+1+1+1:=by rw[<- B4];simp
 obtain⟨ay,E5,L4,-⟩:=nC B4;simp only[B4];have EX:∀ (W:w9) (l:Nat) (o o':Obj),W0<=l->W.heap[l]?=some o->o.isCells=false->o.isWalk=false->Tb (w.heap.size+1) (w.heap.size+2) W (W.putObj l o'):=fun W l o o' hl _ _ _=>⟨aC _ _ _ _ oM,aC _ _ _ _ oM⟩
 refine wpIn_rangeFunc_ownH (F:=Fence.wide) rfl oM (gf:=272) (lb:=#[pO (aP (w+1) 0),pO (aP (w+2) 0)]) rfl trivial (enters_of func272 kF rfl)
  (lQ0 E5 L4 je hn hc hm) (fun h k=>⟨k.1.trans h.1,k.2.trans h.2⟩) EX (Below.refl _ _) (fun _=>rfl)
  (fun pre W=>AX0 w W0.heap.size b off n per pre W/\Fq w W/\Fr (fun _=>True) W0 W)
  (fun _ _ _=>False)
  (U6 ((holdsRow_own w.heap.size w.heap.size 291 33 1 (fun pre:List Nat=>pre.length) (fun pre=>pre.map (qN b off n per)) fun _ v=>∀ g,some g=v.ownBlock->W0.heap.size<=g).from _) (U6 (oY oM) (oY (nR _))))
  (fun _ _ _ _ _ h=>h.elim)
  ⟨⟨_,ay,World.ownsRow_nil _ _ _ _,fun g h=>by simp[Value.ownBlock] at h⟩,bu,fR⟩
  (fun x a' W=>a'={ tmps:=#[sL (aP b off) n c,iI per,undef,undef,sL none 0 0,pO w,qN b off n per x,sL (aP b off) n c,iI per,.func (.func 272) #[] #[pO (aP (w+1) 0),pO (aP (w+2) 0)],qN b off n per x,undef,undef,undef,undef,undef],defers:=[] })
  (fun x a'=>eR _ _)
  ?assign ?body ?done ?stop
 case assign =>
  rintro l pre x W K ⟨hI,hF,iL⟩ hK;have HI:=hi2 hI (aI hF iL);have HK:=hid hK;clear hI hF iL hK ay E5 L4;gi_wp2
  refine HK _ _ ((KeepsOthers.refl _).from _) ⟨rfl,rfl⟩ HI rfl
 case body =>
  rintro l pre x a' W hl ⟨r,hr⟩ ⟨⟨v,hv,A0,Pv⟩,hF,iL⟩ rfl hlen;have e0:=hv.cell;have e1:=hv.frozen;have l1:=hv.lt;have kG:=hF.size;have hsW0:=iL.size;obtain⟨A,E,hcv⟩:∃ A E,qN b off n per x = sL A E E:=⟨_,_,rfl⟩
  have HV:=hid hv;have HO:=hi2 A0 (BX0 A0 Pv);clear hv A0 ay E5 L4 Pv;rw[hcv];have HCV:=hid hcv;clear hcv;gi_wp2_with (gi_at_builtin;refine wpListIn_append_own _ rfl (.tmp 11) (.tmp 13) 291 rfl W0.heap.size 33 i0 _ 1 24 underlying291 A3 J1 M1 O1 rfl dC _ _ _ rfl (HO.2.alloc _) ⟨W,0,none⟩ 1 1 [sL A E E] rfl rfl (cell_one_new _ _ _) (by simp[Value.oneCell']) ?c3 ?c4 ?c5 ?_)
  case c3=>simp[maxLen];omega
  case c4=>omega
  case c5=>simp;omega
  intro v1 w2 N0 R0 Y4;obtain⟨g,cap,rfl⟩:=ownsRow_succ N0;have JX:W0.heap.size<=g:=by rw[hsz];exact (O6 N0 (g:=g) rfl).1
  have bV:∀ bb,w.heap.size<bb->bb<W0.heap.size->(w2.setCell w (sL (aP g 0) (pre.length+1) cap)).heap[bb]?=W.heap[bb]?:=fun bb h1 h2=>by
   rw[fY _ _ _ _ sO,R0.block bb sO fun e=>by have:=(O6 HO.2 e).1;omega];exact fE _ _ _ oM
  obtain⟨d1,d2,d3,d4,d5⟩:=HV.appended dC HO.1 kG (nR _) (BE N0 oM) R0;have f0:=d1.cell;have f1:=d1.frozen;have D2:=hid d2;have D3:=hid d3;clear N0 R0 Y4 d1 d2 d3;gi_wp2
  refine⟨d4.from _,⟨bV _ oM oM,bV _ oM oM⟩,⟨_,D2.o,by simpa[HCV.o] using D3.o,fun g' e=>by cases e;exact JX⟩,?_,⟨d5.os.trans iL.os,d5.tape.trans iL.tape,d5.output.trans iL.output,nT iL.size d5.size,fun _ _ hn=>absurd trivial hn⟩⟩;exact⟨d5.os.trans hF.os,d5.tape.trans hF.tape,d5.output.trans hF.output,nT hF.size d5.size,fun b hb hn=>(d5.block b hb).trans (hF.block b hb hn)⟩
 case done =>
  rintro D ys W hD rfl ⟨⟨v,hv,A0,-⟩,hF,-⟩ hK;have e0:=hv.cell;have HO:=hid A0;clear A0 hv ay E5 L4;gi_wp2
  have hI:=ownsRow_putObj HO (.deferred none) hK rfl;refine wR (t:=4) rfl hK ⟨v,rfl,by simpa using hI,hF.putObj (fun hh=>oM) _⟩
 case stop=>exact fun _ _ _ _ _ _ h=>h.elim
end
section
open Go.RowKit Go.Sg Go.Sg.Bits Go.Sg.r4 CP SF
def kX (y:Cs)(n m:Nat):Prop:=y.fresh n=true/\m=n\/y.fresh n=false/\dF y.taken y.pages y.hand m
def oX (y:Cs)(own:List Nat):Prop:=(∀ k ∈ own,y.fresh (k:Nat)=true)/\∀ k,y.dying k=false
structure kL (y:Cs)(rp:Int)(E0:List Rf)(rest:List Nat)(M:Nat)(K:Prop)(c0:Cont)(C:Nat->Option (List Int)):Prop where
 live:Live y (B2 rp E0++rest) M
 right:∀ r ∈ E0,bh r
 rr:0<=rp
 cont:∀ (j:Nat) r bs,E0[j]?=some r->C j=some bs->y.cont r.1=some (r.2.toNat,bs)
 calm:K->oX y (B2 rp E0++rest)
 keep:∀ k ∈ rest,y.cont k=c0 k
variable {y:Cs}{M N g i j k m n:Nat}{own rest:List Nat}{rp:Int}{K:Prop}{C:Nat->Option (List Int)}{X:Nat->Prop}{W w w':w9}{c:Array Value}
def kX.new (h:kX y n m)(hL:Live y own M):m=n\/m ∉ own:=by
 rcases h with⟨_,h⟩|⟨_,h⟩
 .exact .inl h
 .exact .inr fun hm=>by have:=(hL.tk m hm).1;rw[h.2.1] at this;cases this
def kX.lt (h:kX y n m)(hn:n<y.pages):m<y.pages:=by
 rcases h with⟨_,rfl⟩|⟨_,h⟩
 .exact hn
 .exact h.1
def kX.cont (h:kX y n m)(bs:List Int):(y.put n m bs).cont=dt y.cont m (some (y.gen,bs)):=
 wQ0 (h.imp id fun h=>h.1)
def Ih (hL:Live y own M)(h:kX y n m)(hk:k ∈ own)(L8:k≠n)(bs:List Int):(y.put n m bs).cont k=y.cont k:=by
 rw[h.cont,BJ];intro e;have e':k=m:=oM
 rcases h.new hL with h|h
 .omega
 .exact h (e' ▸ hk)
variable {c0:Cont}{r:Rf}
def kL.mem {E0:List Rf}(h:kL y rp E0 rest M K c0 C)(hi:E0[i]?=some r):(B2 rp E0++rest)[i+1]?=some r.1.toNat:=by
 have hl:=(gI.1 hi).1;rw[jn (by simp[B2];omega)];simp[B2,hi]
def kL.page {E0:List Rf}(h:kL y rp E0 rest M K c0 C)(hi:E0[i]?=some r):r.1=(r.1.toNat:Int)/\r.1.toNat<y.pages/\y.taken r.1.toNat=true/\y.dead r.1.toNat=false:=by
 have hm:=gM (h.mem hi);have hr:=h.right r (gM hi);exact⟨by have:=hr.1;omega,h.live.lt _ hm,(h.live.tk _ hm).1,(h.live.tk _ hm).2.2⟩
def kL.YY {E0:List Rf}(h:kL y rp E0 rest M K c0 C):rp=(rp.toNat:Int)/\rp.toNat<y.pages/\y.taken rp.toNat=true/\y.dead rp.toNat=false:=by
 have hm:rp.toNat ∈ B2 rp E0++rest:=by simp[B2]
 exact⟨by have:=h.rr;omega,h.live.lt _ hm,(h.live.tk _ hm).1,(h.live.tk _ hm).2.2⟩
def yW (hm:m<=2147483647)(hg:g<9223372036854775808):bh ((m:Int),(g:Int)):=⟨by simp,by simp only;omega,by simp,by simp only;omega⟩
def gq0 (h:oX y own)(hn:n ∈ own)(hm:kX y n m)(bs:List Int):oX (y.put n m bs) (own.map (sw n m)):=by
 have hf:=h.1 n hn;rcases hm with⟨_,rfl⟩|⟨h0,_⟩
 .have e:own.map (sw m m)=own:=by
   have:sw m m=id:=by funext k;simp only[sw,id];split <;> omega
   rw[this,List.map_id]
  rw[e,Cs.put,if_pos hf];exact h
 .rw[hf] at h0;cases h0
def lb0 (h:oX y own)(bs:List Int):oX (y.new m bs) (own++[m]):=by
 refine⟨fun k hk=>?_,h.2⟩;show aN y.fresh m true k=true;rw[Qb];split
 .rfl
 .rename_i e;rcases X5.1 hk with hk|hk
  .exact h.1 k hk
  .simp at hk;exact absurd hk e
def pY0 {E0:List Rf}(h:kL y rp E0 rest M K c0 C)(ap:Apart y.taken y.fresh y.dying y.dead)(hi:E0[i]?=some r)(hm:kX y r.1.toNat m)(X4:y.pages<=2147483647)(hg:y.gen<9223372036854775808)(bs:List Int) :
  kL (y.put r.1.toNat m bs) rp (E0.set i ((m:Int),(y.gen:Int))) rest M K c0 (fun j=>if j=i then some bs else C j):=by
 have fd:=h.mem hi;have gn:=(gI.1 hi).1;have hL:=h.live.put (bs:=bs) ap (gM fd) hm;have e:(B2 rp E0++rest).map (sw r.1.toNat m)=B2 rp (E0.set i ((m:Int),(y.gen:Int)))++rest:=by
  rw[Oj h.live.nd fd,List.set_append_left _ _ (by simp[B2];omega)];simp[B2,List.map_set]
 rw[e] at hL;refine⟨hL,fun x hx=>?_,h.rr,fun j x bs' hj hC=>?_,fun hK=>?_,fun k hk=>?_⟩
 .rcases Ml hx with hx|rfl
  .exact h.right x hx
  .exact yW (by have:=hm.lt (h.page hi).2.1;omega) hg
 .rw[ug] at hj;by_cases e:i=j
  .subst e;rw[if_pos rfl,if_pos gn] at hj;cases hj;rw[if_pos rfl] at hC;cases hC;rw[hm.cont];simp[dt]
  .rw[if_neg e] at hj;rw[if_neg fun e'=>e e'.symm] at hC;have hx:=h.mem hj;have hne:x.1.toNat≠r.1.toNat:=fun he=>by
    rw[he] at hx;have:=(FM (gI.1 hx).1 h.live.nd).1 (hx.trans fd.symm);omega
   have:=Ih h.live hm (gM hx) hne bs;rw[<- (h.page hj).1] at this;rw[this];exact h.cont j x bs' hj hC
 .have:=gq0 (h.calm hK) (gM fd) hm bs;rw[e] at this;exact this
 .have Kd:k ∈ B2 rp E0++rest:=lK _ hk;rw[Ih h.live hm Kd (fun he=>?_) bs]
  .exact h.keep k hk
  .have hd:=(yh.1 h.live.nd).2.2 r.1.toNat (by simp only[B2,d9,N4];exact .inr ⟨r,gM hi,rfl⟩) k hk;exact hd he.symm
def wk0 {E0 : List Rf} (h : kL y rp E0 rest M K c0 C) (ap : Apart y.taken y.fresh y.dying y.dead) (hm : dF y.taken y.pages y.hand m) (X4 : y.pages <= 2147483647) (hg : y.gen < 9223372036854775808) (bs : List Int) :
    kL (y.new m bs) rp (E0++[((m:Int),(y.gen:Int))]) rest M K c0 (fun j=>if j=E0.length then some bs else if j<E0.length then C j else none):=by
  have hL:=h.live.new (bs:=bs) ap hm;have hno:m ∉ B2 rp E0++rest:=fun O8=>by have:=(h.live.tk m O8).1;rw[hm.2.1] at this;cases this
  have e:(B2 rp E0++rest++[m]).Perm (B2 rp (E0++[((m:Int),(y.gen:Int))])++rest):=by
    have e1:B2 rp (E0++[((m:Int),(y.gen:Int))])=B2 rp E0++[m]:=(by simp[B2]);rw[e1,dD,dD];exact List.Perm.append_left _ List.perm_append_comm
  refine⟨hL.perm e,fun x hx=>?_,h.rr,fun j x bs' hj hC=>?_,fun hK=>?_,fun k hk=>?_⟩
  . rcases X5.1 hx with hx|hx
    . exact h.right x hx
    . simp at hx;subst hx;exact yW (by have:=hm.1;omega) hg
  . by_cases e:j=E0.length
    . subst e;rw[if_pos rfl] at hC;cases hC;rw[kN (nR _)] at hj;simp at hj;subst hj;simp[Cs.new,dt]
    . rw[if_neg e] at hC;split at hC
      . rename_i hjl;rw[jn hjl] at hj;have hx:=gM (h.mem hj);have hp:=(h.page hj).1;have hne:x.1≠(m:Int):=fun he=>hno (by rw[he] at hx;simpa using hx)
        show dt y.cont m (some (y.gen,bs)) x.1=_;rw[BJ hne];exact h.cont j x bs' hj hC
      . cases hC
  . have h1:=lb0 (m:=m) (h.calm hK) bs;exact⟨fun k hk=>h1.1 k (e.mem_iff.2 hk),h1.2⟩
  . have Kd:k ∈ B2 rp E0++rest:=lK _ hk;show dt y.cont m (some (y.gen,bs)) k=_
    rw [BJ (fun he => hno (by have : k = m := by omega
                              rw[<- this];exact Kd))]
    exact h.keep k hk
def pT0 {E0:List Rf}(h:kL y rp E0 rest M K c0 C)(ap:Apart y.taken y.fresh y.dying y.dead)(hm:kX y rp.toNat m)(bs:List Int) :
  kL (y.put rp.toNat m bs) m E0 rest M K c0 C/\(y.put rp.toNat m bs).cont m=some (y.gen,bs):=by
 have fd:(B2 rp E0++rest)[0]?=some rp.toNat:=by simp[B2]
 have hL:=h.live.put (bs:=bs) ap (gM fd) hm;rw[Oj h.live.nd fd] at hL;have he:(B2 rp E0++rest).set 0 m=B2 m E0++rest:=by simp[B2]
 refine⟨⟨by rw[<- he];exact hL,h.right,by simp,fun j x bs' hj hC=>?_,fun hK=>?_,fun k hk=>?_⟩,by rw[hm.cont];simp[dt]⟩;rotate_left
 .have:=gq0 (h.calm hK) (gM fd) hm bs;rw[Oj h.live.nd fd,he] at this;exact this
 .have Kd:k ∈ B2 rp E0++rest:=lK _ hk;rw[Ih h.live hm Kd (fun he=>?_) bs]
  .exact h.keep k hk
  .have hd:=(yh.1 h.live.nd).2.2 rp.toNat (by simp[B2]) k hk;exact hd he.symm
 have hx:=h.mem hj;have hne:x.1.toNat≠rp.toNat:=fun he=>by
  rw[he] at hx;have:=(FM (gI.1 hx).1 h.live.nd).1 (hx.trans fd.symm);omega
 have:=Ih h.live hm (gM hx) hne bs;rw[<- (h.page hj).1] at this;rw[this];exact h.cont j x bs' hj hC
def dH.E0 {y:Cs}{x:P1}{E0 slots:List Rf}{rest:List Nat}{M:Nat}{K:Prop}{c0:Cont}(h:dH y x E0 slots)(hL:Live y (B2 x.rp E0++rest) M)(hK:K->oX y (B2 x.rp E0++rest))(hc:∀ k ∈ rest,y.cont k=c0 k):kL y x.rp E0 rest M K c0 (fun j=>some (P3 (chunk slots x.per j))):=
 ⟨hL,h.leaf.tr,h.rr.1,fun j r bs hj hC=>by cases hC;exact h.leaf.at_ j r hj,hK,hc⟩
abbrev O0 (B:P0)(X:Nat->Prop)(w w':w9):Prop:=Fr (fun b=>(B.base<=b/\Az B w b)\/X b) w w'
def O0.refl (B:P0)(X:Nat->Prop)(w:w9):O0 B X w w:=fR
variable {B:P0}
def O0.of (h:D0 B w w'):O0 B X w w':=Fr.mono h fun _ _ h=>.inl h
def O0.none (h:Fq w w'):O0 B X w w':=Fr.mono h fun _ _ h=>h.elim
def O0.trans {w1 w2:w9}(h:O0 B X w w1)(k:O0 B X w1 w2):O0 B X w w2:=by
 refine Fr.trans h k fun b hb hs=>?_
 rcases Classical.em ((B.base<=b/\Az B w b)\/X b) with hm|hm
 .exact hm
 .rcases hs with hs|hs
  .have e:=Fr.block h b hb hm;refine .inl ⟨hs.1,fun c t f hc=>hs.2.1 c t f (e.trans hc),?_⟩;rw[<- e];exact hs.2.2
  .exact .inr hs
def N2.frX {bd s:Nat}{x:P1}(h:N2 w bd s x)(F:O0 B X w w')(hX:¬ X bd):N2 w' bd s x:=
 Fr.heap F h fun hs=>by
  rcases hs with hs|hs
  .exact absurd (hs.2.1 _ _ _ h) dC
  .exact hX hs
variable {l:List Rf}
def iq.frX {a:Option Addr}(h:iq w a l)(F:O0 B X w w')(hX:∀ b off,a=some ⟨b,off,none⟩->l≠[]->¬ X b):iq w' a l:=
 ⟨h.row.fr F fun b off e _ hne hs=>by
  obtain⟨c,hc⟩:=h.ty b off e hne;rcases hs with hs|hs
  .exact absurd (hs.2.1 c 35 _ hc) dC
  .exact hX b off e hne hs,fun b off e hne=>by
  obtain⟨c,hc⟩:=h.ty b off e hne;exact⟨c,Fr.heap F hc fun hs=>by
   rcases hs with hs|hs
   .exact absurd (hs.2.1 c 35 _ hc) dC
   .exact hX b off e hne hs⟩⟩
def OS (l:List Rf):∀ (k:Nat) (p s:Int),k<l.length->(l.set k (p,s)).flatMap N7=((l.flatMap N7).set (k*2) (iI p)).set (k*2+1) (iI s):=by
 induction l with
 | nil=>intro k p s h;simp at h
 | cons y l ih =>
  intro k p s h;cases k with
  | zero=>simp[N7]
  | succ k =>
   have e:(k+1)*2=k*2+1+1:=oM
   have h':k<l.length:=by simpa using h
   rw[e];simp only[sS,dj,N7,ak,C7];rw[ih k p s h']
def Ye {base c:Nat}(h:aq w base (sL g l.length c) l)(hk:k<l.length)(p s:Int) :
  ((w.setCell (aA g (k*2)) (iI p)).setCell (aA g (k*2+1)) (iI s)).ownsRow base 35 2 (.slice g (l.set k (p,s)).length c) (l.set k (p,s)).length ((l.set k (p,s)).flatMap N7):=by
 obtain⟨hl,⟨h0,h1⟩|⟨g',cap,cur,hv,hb,hg,hc,hm,hs,ht⟩⟩:=h
 .cases h0
 .cases hv;refine⟨by rw[Ou],.inr ⟨g,c,(cur.setIfInBounds (k*2) (iI p)).setIfInBounds (k*2+1) (iI s),by rw[fj],hb,?_,by rw[fj];exact hc,hm,by simpa using hs,?_⟩⟩
  .rw[hsc _ _ _ _ (hsc _ _ _ _ hg)]
  .rw[OS l k p s hk,fj,<- ht];simp only[Xy,List.take_set]
def DE (u v:Value):Fr (fun b=>b=g) W ((W.setCell (aA g i) u).setCell (aA g j) v):=
 Fr.setCell (S:=fun b=>b=g) (Fr.setCell (S:=fun b=>b=g) fR (fun _=>rfl) _) (fun _=>rfl) _
def Xr (h:O0 B X w W)(hg:w<=g\/X g)(u v:Value):O0 B X w ((W.setCell (aA g i) u).setCell (aA g j) v):=by
 have hs:g<w->(B.base<=g/\Az B w g)\/X g:=fun hl=>by
  rcases hg with h|h
  .omega
  .exact .inr h
 exact Fr.setCell (Fr.setCell h hs _) hs _
variable {P:J2}
def ud0 {a:Bool}(h:C1 W B y P a N)(hg:W.heap[g]?=some (.cells c 35))(h0:0<g)(u v:Value):C1 ((W.setCell (aA g i) u).setCell (aA g j) v) B y P a N:=
 h.M3 (DE u v) hg dC h0
def ue0 (h:C5 W B y P N)(hg:W.heap[g]?=some (.cells c 35))(u v:Value):C5 ((W.setCell (aA g i) u).setCell (aA g j) v) B y P N:=
 h.M3 (DE u v) hg dC
def rm0 {b off:Nat}(h:iq w (some ⟨b,off,none⟩) l)(per k:Nat):iq w (some ⟨b,off+k*per*2,none⟩) (chunk l per k):=
 ⟨⟨fun i x hx=>by
   have hi:i<per:=by
    have h1:=(gI.1 hx).1;rw[sb] at h1;omega
   rw[EG hi] at hx;obtain⟨b',off',e,hb,h0,h1⟩:=h.row.at_ _ x hx;cases e;have e1:off+k*per*2+i*2=off+(k*per+i)*2:=by rw[DU];omega
   exact⟨b,_,rfl,hb,by rw[e1];exact h0,by rw[e1];exact h1⟩⟩,
  fun b' off' e hne=>by
   cases e;exact h.ty b off rfl (by rintro rfl;simp[chunk] at hne)⟩
