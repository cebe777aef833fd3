/- A pack of texts. Conditions: those that each names. -/
import Derived.Test.YtgdhaaokolfdoaaGreatDoorNAG
import Derived.Test.YtgdhaaokolfdoaaGreatDoorNAH
set_option maxHeartbeats 16000000
set_option maxRecDepth 100000
set_option linter.all false
namespace Go.Proofs.YtgdhaaokolfdoaaGreatDoor
open Tryz
section
open Go.RowKit Go.Sg
def BT0 {w:w9}{base d bf bq:Nat}{D:Dev}(h:Q4 w base d bf bq D)(Z0:base<=w)(A4:D.down=false)(Q7:D.acts<=1000000)(mJ:D.armed<=9223372036854775807)(B5:D.loose.length<=100000)(at_:Nat)(G4:at_<D.C0)
  {la:Option Addr} {ll lc:Nat} {bs:List Int} (hb:T0 w la ll lc bs) (O2:∀ x ∈ bs,0<=x/\x<256) (kind place stamp:Nat) (hk:1<=kind/\kind<=4) (hp:place<=2147483647) (hs:stamp<9223372036854775808) (hl:ll+19<=D.size) :
  cP 170 #[pO d,iI at_,.agg #[iI kind,iI place,iI stamp,sL la ll lc]] w (WritePost base d bf bq D at_ (D6 D.size kind place stamp bs) w):=by
 obtain⟨w1,I0⟩:=eX (w.alloc (.cells #[iI kind,iI place,iI stamp,sL la ll lc] 166))
 have F1:=fA I0
 have b1:=fB I0
 obtain⟨c0,c1,c2,c3⟩:w1.cell? w=some (iI kind)/\w1.cell? (aA w 1)=some (iI place)/\w1.cell? (aA w 2)=some (iI stamp)/\w1.cell? (aA w 3)=some (sL la ll lc):=
  ⟨by simpa using G0 b1 0,by simpa using G0 b1 1,by simpa using G0 b1 2,by simpa using G0 b1 3⟩
 have DH:=M0 b1;have hz:=h.rg.2;have wD:=hid (fun W (F:Fq w1 W)=>size_at (w:=W) (d:=d) (n:=D.size) (by obtain⟨lv,hd,_⟩:=h.dc;have:=G0 (F.heap (F1.heap hd id) id) 1;simpa using this));have HBU:=hid fun W (F:Fq w1 W)=>(oQ0 (hb.fr (F1.trans F nI) fun _ _ _ h=>h) O2 D.size kind place stamp hz.1 hz.2 hk hp hs hl).mono fun (e:Ending) W' ⟨a,c,he,hv,F'⟩=>(⟨a,c,he,hv,F.trans F' nI,F'⟩:∃ a c,e=rT (tU #[sL a D.size c,iI 0])/\T0 W' a D.size c (D6 D.size kind place stamp bs)/\Fq w1 W'/\Fq W W');have H:=hid h;have E1:=hid F1;have R6:=hid I0;have HD:=hid A4;clear h hb O2 I0 F1 b1 A4;go_enter func170,ntmps170;go_wp2
 rw[R6];go_region_held3 (fun W=>W.cell? w=some (iI kind)/\W.cell? (aA w 1)=some (iI place)/\W.cell? (aA w 2)=some (iI stamp)/\W.cell? (aA w 3)=some (sL la ll lc)) (go_keep)
  (first
   | (go_at_call 93;refine (wD _ (by first|exact fR|exact fR.drew)).mono ?_;rintro e w' ⟨rfl,rfl⟩)
   | (go_at_call 220;refine (HBU _ (by first|exact fR|exact fR.drew)).mono ?_;rintro e w2 ⟨ba,bc,rfl,hv,F2,Gq⟩;have c0:=(Gq.cell (p:=⟨w,0,none⟩) (by first|exact DH|(simp;omega)) id).trans c0;have c1:=(Gq.cell (p:=⟨w,1,none⟩) (by first|exact DH|(simp;omega)) id).trans c1;have c2:=(Gq.cell (p:=⟨w,2,none⟩) (by first|exact DH|(simp;omega)) id).trans c2;have c3:=(Gq.cell (p:=⟨w,3,none⟩) (by first|exact DH|(simp;omega)) id).trans c3;have H2:=hi2 hv F2;clear hv F2 Gq))
 have E7:=E1.trans H2.2 nI;have Ho:=hid (nf0 (H.fr E7 id id id fun _ _ _ _ _ h=>h) (nT Z0 E7.size) HD Q7 mJ B5 at_ G4 H2.1);clear c0 c1 c2 c3 E7;go_wp2_with fail
 refine Ho.mono ?_;rintro e w3 ⟨rfl,zm,F3⟩;have H3:=hi2 zm F3;clear zm F3;generalize hif:(if D.act.down=true then (4:Int) else 0)=er;have HIF:=hid hif;clear hif;go_wp2
 go_ret;exact⟨by rw[HIF];rfl,H3.1,lN.trans (w1:=w1) (E1.mono nE) (lN.trans (w1:=w2) (H2.2.mono nE) H3.2)⟩
end
section
open Go.RowKit Go.Sg Go.Sg.Bits Go.Sg.r4 CP
variable {w:w9}{B:P0}{x:T3}
def X1.wh0 (h:X1 w B x){r:r8}(h1:r≠.d)(h2:r≠.bq):¬ lN w B.base B.d B.bq (B.at_ r):=by
 intro e;rcases e with e|e|⟨_,c,t,ht,hc⟩
 .exact h1 (h.inj (r':=.d) e)
 .exact h2 (h.inj (r':=.bq) e)
 .have hk:=qJ hc;rw[(h.heaps r).2.2.2] at hk;rcases ht with rfl|rfl <;> cases r <;> simp[r8.kind] at hk
def X1.sY0 {w':w9}(h:X1 w B x){D:Dev}(hD:Q4 w' B.base B.d B.bf B.bq D)(F:Fr (lN w B.base B.d B.bq) w w')(h1:D.C0=x.dev.C0)(h2:D.size=x.dev.size) :
  X1 w' B { x with dev:=D }/\D0 B w w':=by
 have nS:=fun r (h1:r≠r8.d) (h2:r≠r8.bq)=>h.wh0 h1 h2
 have n5:∀ g c,w.heap[g]?=some (.cells c 5)->¬ lN w B.base B.d B.bq g:=fun g c hg e=>by
  rcases e with e|e|⟨_,c',t,ht,hc⟩
  .obtain⟨lv,hd,_⟩:=h.dev.dc;rw[e,hd] at hg;cases hg
  .obtain⟨l,ck,hq,_⟩:=h.dev.past;rw[e,hq] at hg;cases hg
  .rw[hg] at hc;cases hc;rcases ht with ht|ht <;> cases ht
 refine⟨⟨F.heap h.s (nS .s dC dC),hD,h.bits.fr F (nS .bs dC dC) (nS .bw dC dC),h.fr.fr F (nS .fr dC dC),h.dy.fr F (nS .dy dC dC),h.de.fr F (nS .de dC dC),
  h.mem.fr F (nS .bc dC dC) (nS .bp dC dC) (nS .bm dC dC),fun k p hp=>?_,h.ne,h.ge,?_,h.inr⟩,?_⟩
 .obtain⟨bs,hb,hl⟩:=h.load k p hp;exact⟨bs,hb.fr F n5,hl⟩
 .obtain⟨a,b,c,d,e⟩:=h.rg;exact⟨a,b,c,by rw[show ({ x with dev:=D }:T3).dev.C0=x.dev.C0 from h1];exact d,by rw[show ({ x with dev:=D }:T3).dev.size=x.dev.size from h2];exact e⟩
 .refine F.mono fun b hb e=>?_
  rcases e with e|e|⟨e1,c,t,ht,hc⟩
  .rw[e];exact⟨(h.heaps .d).1,⟨(h.heaps .d).2.1,.inr ⟨.d,rfl⟩⟩⟩
  .rw[e];exact⟨(h.heaps .bq).1,⟨(h.heaps .bq).2.1,.inr ⟨.bq,rfl⟩⟩⟩
  .exact⟨e1,iG.cells hc (by rcases ht with rfl|rfl <;> decide),.inl ⟨c,t,_,hc⟩⟩
def yd0 (B:P0)(x:T3)(k:Int)(st:Int)(bs:List Int)(w:w9)(e:Ending)(w':w9):Prop:=
 ∃ D err,e = rT (iI err)/\(D,err)=x.dev.write (x.first+k) (D6 x.dev.size 2 k.toNat st.toNat bs)/\X1 w' B { x with dev:=D }/\D0 B w w'
namespace SF
def out_ok {w:w9}{B:P0}{x:T3}(h:X1 w B x)(A4:x.dev.down=false)(Q7:x.dev.acts<=1000000)(mJ:x.dev.armed<=9223372036854775807)(B5:x.dev.loose.length<=100000)(n:Nat)(hn:n<x.pages)(st:Nat)(hst:st<9223372036854775808)
  {la:Option Addr} {ll lc:Nat} {bs:List Int} (di:Bool) (hb:T0 w la ll lc bs) (O2:∀ x ∈ bs,0<=x/\x<256) (hl:ll<=x.room) :
  cP 110 #[B.ptr,iI n,.agg #[iI st,sL la ll lc,bO di]] w (yd0 B x n st bs w):=by
 obtain⟨w1,I0⟩:=eX (w.alloc (.cells #[iI st,sL la ll lc,bO di] 162))
 have F1:=fA I0
 have b1:=fB I0
 obtain⟨c0,c1,c2,cz,cl⟩:=cells3 b1;have h1:=h.J0 F1;have q0:=h1.sc.c0;have q9:=h1.sc.c9;have ql:=h1.sc.lt;obtain⟨at_,G4⟩:=iZ (show 0<=x.first+n by have:=h.rg.2.2.1;omega);have Co:at_<x.dev.C0:=by have:=h.rg.2.2.2.1;omega
 have dP:=h.dev.rg.1.2;have io:IntKind.i64.wrap (x.first+(n:Int))=(at_:Int):=by rw[IntKind.wrap_i64];omega
 have IJ:B.base<=w.heap.size:=by have:=(h.heaps .s);omega
 obtain⟨er,lB⟩:∃ er:Int,(if x.dev.act.down=true then (4:Int) else 0)=er:=⟨_,rfl⟩
 have HP:=hid (fun W (F:Fq w1 W)=>(BT0 ((h1.J0 F).dev) (nT IJ (F1.trans F nI).size) A4 Q7 mJ B5 at_ Co (hb.fr (F1.trans F nI) fun _ _ _ h=>h) O2 2 n st oM (by have:=h.rg.2.2.2.1;have:=h.rg.2.2.1;omega) hst (by have:=h.rg.2.2.2.2;omega)).mono
  (fun (e:Ending) W' ⟨he,hD,hF⟩=>(⟨by rw[he,lB],(h1.J0 F).sY0 hD hF rfl rfl,F⟩:e=rT (iI er)/\(X1 W' B { x with dev:={ x.dev.act with loose:=x.dev.loose++[((at_:Int),D6 x.dev.size 2 n st bs)] } }/\D0 B W W')/\Fq w1 W)))
 have Wl:({ x.dev.act with loose:=x.dev.loose++[((at_:Int),D6 x.dev.size 2 n st bs)] },if x.dev.act.down=true then (4:Int) else 0)=x.dev.write (x.first+n) (D6 x.dev.size 2 (n:Int).toNat (st:Int).toNat bs):=by
  rw[Dev.write,A4,G4];have J6:=hb.len;have h3:(D6 x.dev.size 2 n st bs).length=x.dev.size:=NQ (by have:=h.rg.2.2.2.2;omega);simp only[jI,if_false,jK,Int.ofNat_eq_natCast];rw[if_neg (show ¬ ((at_:Int)<0\/(x.dev.C0:Int)<=(at_:Int)) by omega),if_neg (show ¬ (D6 x.dev.size 2 n st bs).length≠x.dev.size by rw[h3];simp)]
 rw[lB] at Wl;have HWT:=hid Wl;have R6:=hid I0;have E1:=hid F1;have I3:=hid b1;clear Wl I0 F1 b1 h h1 hb O2 A4 G4 lB;go_enter func110,ntmps110;go_wp2
 rw[R6];go_region_held3 (fun W=>(W.cell? (aA B.s 0)=some (pO (aP B.d 0))/\W.cell? (aA B.s 9)=some (iI x.first))/\(W.cell? w=some (iI st)/\W.cell? (aA w 1)=some (sL la ll lc))) (go_keep)
  ((go_at_call 170;refine (HP _ (by first|exact fR|exact fR.drew)).mono ?_;rintro e w2 ⟨rfl,cB,F2⟩;have H2:=hi2 cB F2;have q0:=cB.1.sc.c0;have q9:=cB.1.sc.c9;obtain⟨c0,c1,c2,cz,cl⟩:=cells3 (cB.2.heap (F2.heap I3 id) dC);clear cB F2))
 go_wp2
 go_ret;exact⟨_,er,rfl,HWT.o,H2.1.1,(D0.none E1.o).trans ((D0.none H2.2).trans H2.1.2)⟩
end SF
def zf (w:w9)(x:T3):Prop:=∀ k q,x.mem k=some q->(0<=k/\k<x.pages)/\(0<=q.stamp/\q.stamp<9223372036854775808)/\∃ bs,T0 w q.la q.ll q.lc bs/\bs.length<=x.room/\∀ b ∈ bs,0<=b/\b<256
structure YH (D:Dev):Prop where
 down:D.down=false
 acts:D.acts<=1000000
 armed:D.armed<=9223372036854775807
 many:D.loose.length<=100000
namespace SF
def OP {w:w9}{B:P0}{x:T3}(h:X1 w B x)(hg:zf w x)(hu:YH x.dev)(n:Int)(p:Pg)(hp:∃ bs,T0 w p.la p.ll p.lc bs/\bs.length<=x.room) :
  cP 82 #[B.ptr,iI n,p.val] w (Xw B x n p w):=by
 refine keep_any h n p ?_ ?_
 .intro W g hgo hd hm F;refine⟨0,g,x.dev,rfl,hgo,?_,h.XT F hm (WE h F hp),h.T1 F⟩;cases g with
  | none=>exact⟨rfl,rfl⟩
  | some g =>
   obtain⟨k,q⟩:=g;have Fd:q.dirty=false:=hd;show (if q.dirty=true then _ else _);rw[if_neg (by rw[Fd];decide)];exact⟨rfl,rfl⟩
 .intro W g hgo hd hm F;obtain⟨k,q⟩:=g;have hq:x.mem k=some q:=hgo.2.1;obtain⟨⟨k0,k1⟩,⟨s0,s1⟩,bs,hb,J6,O2⟩:=hg k q hq;obtain⟨kn,rfl⟩:=iZ k0;obtain⟨st,la,ll,lc,di⟩:=q;obtain⟨sn,rfl⟩:=iZ s0;have hS:=h.XT F hm (WE h F hp);have N8:bs.length=ll:=hb.len;have s1':(sn:Int)<9223372036854775808:=s1;have k1':(kn:Int)<x.pages:=k1;have Uz:bs.length<=x.room:=J6;refine (out_ok hS hu.down hu.acts hu.armed hu.many kn (by show kn<x.pages;omega) sn oM di (h.NK F hb) O2 (by show ll<=x.room;omega)).mono ?_;rintro e W' ⟨D,err,rfl,hw,K8,hF'⟩;refine⟨err,rfl,err,some ((kn:Int),⟨sn,la,ll,lc,di⟩),D,rfl,hgo,?_,K8,(h.T1 F).trans hF'⟩;unfold lM;simp only;rw[if_pos hd];exact⟨bs,(h.NK F hb).T1 hF',hw⟩
end SF
namespace SF
def moved (x:T3)(n m:Nat)(p:Pg)(g:Option (Int × Pg))(D:Dev)(err:Int):T3:=
 if err=0 then { tk x m with mem:=aQ x.mem m p g,dev:=D,dying:=aN x.dying n true } else { tk x m with mem:=aQ x.mem m p g,dev:=D }
def Eu0 (B:P0)(x:T3)(n:Nat)(bs:List Int)(w:w9)(e:Ending)(w':w9):Prop:=
 ∃ m err g D p,dF x.taken x.pages x.hand m/\e = rT (tU #[AB err m x.gen,iI err])/\nJ x.mem x.places m g/\lM w' x g D err /\
  X1 w' B (moved x n m p g D err)/\(p.stamp=x.gen/\p.dirty=true/\T0 w' p.la p.ll p.lc bs)/\D0 B w w'
def uF0 {w:w9}{B:P0}{x:T3}(h:X1 w B x)(n:Nat)(st:Int){la:Option Addr}{ll lc:Nat}{bs:List Int}(hl:ll<=x.room)(hp:n<x.pages)(ht:x.taken n=true)(hf:x.fresh n=false)
  (hk:∀ W,X1 W B x->Fq w W->cP 22 #[B.ptr,sL la ll lc] W (Xv B x bs W)) :
  cP 26 #[B.ptr,.agg #[iI n,iI st],sL la ll lc] w (Eu0 B x n bs w):=by
 obtain⟨w1,I0⟩:=eX ((w.alloc (.cells #[iI n,iI st] 35)).alloc (.cells #[iI 0,iI 0] 35))
 obtain⟨b0,b1,F1⟩:=n9 I0;obtain⟨d0,d1,dz,dl⟩:=cells2 b0;have c11:=h.sc.c11;have l:=h.sc.lt;have HI:=hid (MB (h.J0 F1) n st oM oM);have H1:=hid (h.J0 F1);have HT:=hid ht;have HF:=hid hf;have HW:=hid I0;have iy:=hid b0;have I3:=hid b1;have E1:=hid F1;have HK:=hid hk;clear I0 b0 b1 F1 h ht hf hk;go_enter func26,ntmps26;go_wp2_with fail
 rw[HW];refine HI.mono ?_;rintro e w2 ⟨rfl,F2⟩;obtain⟨e0,e1,ez,el⟩:=cells2 (F2.heap I3 id);obtain⟨f0,f1,fz,fl⟩:=cells2 (F2.heap iy id);have h2:=H1.J0 F2;have g13:=h2.sc.c13;have g14:=h2.sc.c14;have HH:=hid fun W (F:Fq w2 W)=>(Yz (h2.bits.fr F id id) n hp);rw[HT] at HH;obtain⟨lf,cf,qZ,U8⟩:=h2.fr.ex;have hlk:=fun (W:w9) (hW:W.heap[B.fr]?=some (.map (ents lf) cf))=>yT (P:=prog) (T:=153) false underlying153 underlying3 rV hW n
 rw[U8.at_,HF] at hlk;simp only[jI,if_false,Option.getD_none] at hlk;have Y0:=hid F2;have H2:=hid h2;clear F2 h2 U8;go_wp2
 go_quiet ((go_at_call 88;exact EJ (HH _ (fR.drewN _))))
 go_wp2
 go_quiet (fail)
 go_wp2_with fail
 have yB:=hi2 (Y0.heap iy id) (Y0.heap I3 id);have ls:B.s<w2.heap.size:=H2.sc.lt;have ms:¬ w.heap.size+1=B.s:=oM
 have AY:=hid (fun W (F:Fq w2 W)=>(HK W (H2.J0 F) ((E1.trans Y0 nI).trans F nI)).mono
  (fun (e:Ending) W' hN=>(⟨W,F,hN⟩:∃ W,Fq w2 W/\Xv B x bs W e W')))
 clear hlk qZ iy I3 d0 d1 dz c11 g13 g14 fz;refine (AY _ (by first|exact fR.drewN _|exact (fR.drewN _).drew)).mono ?_;rintro e w5 ⟨W,FW,m,err,g,D,p,hm,rfl,hg,ho,J5,aX,F5⟩;obtain⟨f0,f1,fz,fl⟩:=cells2 (F5.heap (FW.heap yB.1 id) dC);have A6:=F5.heap (FW.heap yB.2 id) dC;have R1:=F5.heap (FW.heap yB.1 id) dC;have FF:D0 B w w5:=(D0.none ((E1.trans Y0 nI).trans FW nI)).trans F5;have zP:(tk x m).fresh n=false:=by
  have:¬ (n:Int)=(m:Int):=fun e=>by
   have e':n=m:=oM
   rw[e',hm.2.1] at HT;cases HT.o
  simp[tk,aN,this,HF.o]
 have ZY:=hid zP;have H5:=hi2 hm (aI hg (aI ho (aI J5 (aI aX (aI FF (aI A6 R1))))));have ms5:¬ w5.heap.size=w.heap.size:=oM
 have ms6:¬ w5.heap.size=w.heap.size+1:=by have:=M0 A6;omega
 clear hm hg ho J5 aX F5 FW FF A6 R1 zP;by_cases he:err=0
 .subst he;simp only[AB,if_true];obtain⟨w6,ot⟩:=eX (w5.alloc (.cells #[iI m,iI x.gen] 35))
  have F6:=fA ot
  have b6:=fB ot
  have HG:=hid (qS0 (H5.2.2.2.1.J0 F6) (n:=n) hp ZY.o);have H6:=hi2 F6 b6;have HW6:=hid ot;clear ot F6 b6;go_wp2_with fail
  rw[HW6];refine HG.mono ?_;rintro e w7 ⟨rfl,lq,F7⟩;have rA:D0 B w5 w7:=(D0.none H6.1).trans ((H5.2.2.2.1.J0 H6.1).T1 F7);have lO:D0 B w6 w7:=(H5.2.2.2.1.J0 H6.1).T1 F7;obtain⟨g0,g1,gz,gl⟩:=cells2 (lO.heap H6.2 dC);have E6:=rA.heap H5.2.2.2.2.2.2.1 dC;obtain⟨k0,k1,kz,kl⟩:=cells2 E6;have H7:=hi2 lq (aI rA E6);clear lq F7 rA lO E6;go_wp2
  refine bodyPost_ret (v:=tU #[.agg #[iI m,iI x.gen],iI 0]) sR rfl ?_;obtain⟨lq,rA,E6⟩:=H7.o;obtain⟨hm,hg,ho,J5,aX,FF,A6,R1⟩:=H5.o;have FL:Fr (fun b=>b=w.heap.size+1) w7 ((w7.setCell (aA (w+1) 0) (iI m)).setCell (aA (w+1) 1) (iI x.gen)):=((Fr.refl (fun b=>b=w.heap.size+1) _).setCell (a:=⟨w+1,0,none⟩) (fun _=>rfl) _).setCell (a:=⟨w+1,1,none⟩) (fun _=>rfl) _;refine⟨m,0,g,D,p,hm,rfl,hg,Io (oY0 ho rA) FL E6 dC,?_,⟨aX.1,aX.2.1,(aX.2.2.T1 rA).M3 FL E6 dC⟩,?_⟩
  .have e:moved x n m p g D 0=My { tk x m with mem:=aQ x.mem m p g,dev:=D } n:=by
    have:({ tk x m with mem:=aQ x.mem m p g,dev:=D }:T3).fresh n=false:=ZY.o;rw[My,this,moved,if_pos rfl];rfl
   rw[e];exact lq.M3 FL E6 dC
  .exact ((FF.trans rA).setCell (a:=⟨w+1,0,none⟩) (fun h=>absurd h sP) _).setCell (a:=⟨w+1,1,none⟩) (fun h=>absurd h sP) _
 .have tn:(err == 0)=false:=by simpa using he
  simp only[AB,if_neg he];obtain⟨k0,k1,kz,kl⟩:=cells2 H5.2.2.2.2.2.2.1;go_wp2
  refine bodyPost_ret (v:=tU #[.agg #[iI 0,iI 0],iI err]) sR rfl ?_;obtain⟨hm,hg,ho,J5,aX,FF,A6,R1⟩:=H5.o;have FL:Fr (fun b=>b=w.heap.size+1) w5 (((w5.setCell (aA (w+1) 0) (iI 0)).setCell (aA (w+1) 1) (iI 0)).alloc (.cells #[iI 0,iI 0] 35)):=(((Fr.refl (fun b=>b=w.heap.size+1) _).setCell (a:=⟨w+1,0,none⟩) (fun _=>rfl) _).setCell (a:=⟨w+1,1,none⟩) (fun _=>rfl) _).alloc _;refine⟨m,err,g,D,p,hm,by rw[AB,if_neg he],hg,Io ho FL A6 dC,?_,⟨aX.1,aX.2.1,aX.2.2.M3 FL A6 dC⟩,?_⟩
  .rw[moved,if_neg he];exact J5.M3 FL A6 dC
  .exact ((FF.setCell (a:=⟨w+1,0,none⟩) (fun h=>absurd h sP) _).setCell (a:=⟨w+1,1,none⟩) (fun h=>absurd h sP) _).alloc _
end SF
def X1.Zb {W:w9}(h:X1 w B x)(F:eI B [.bp] w W)(hm:cR W B.bc B.bp B.bm x.places x.mem):X1 W B x:=by
 have S:=h.stays F;exact⟨S.s dC,S.dev dC dC dC,S.bits dC dC,S.fr dC,S.dy dC,S.de dC,hm,S.load,h.ne,h.ge,h.rg,h.inr⟩
namespace SF
def vn0 (B:P0)(x:T3)(q:Pg)(st:Int)(bs:List Int)(w:w9)(e:Ending)(w':w9):Prop:=
 (if q.stamp=st then ∃ a c,e = rT (tU #[sL a bs.length c,iI 0])/\T0 w' a bs.length c bs else e = rT (tU #[sL none 0 0,iI 5]))/\X1 w' B x/\D0 B w w'
def wL0 {w:w9}{B:P0}{x:T3}(h:X1 w B x)(p st:Int)(h0:0<=p)(h1:p<x.pages){q:Pg}(hq:x.mem p=some q){bs:List Int}(hb:T0 w q.la q.ll q.lc bs) :
  cP 24 #[B.ptr,.agg #[iI p,iI st]] w (vn0 B x q st bs w):=by
 obtain⟨qs,qa,ql,qc,qd⟩:=q;obtain⟨w1,I0⟩:=eX (w.alloc (.cells #[iI p,iI st] 35))
 have F1:=fA I0
 have b1:=fB I0
 obtain⟨d0,d1,dz,dl⟩:=cells2 b1;have HI:=hid (MB (h.J0 F1) p st h0 h1);have H1:=hid (h.J0 F1);have hlen:=hb.len;have xB:ql<=493:=by
  obtain⟨bs',P4,hl'⟩:=h.load p _ hq;have:=P4.len;have:=h.rg.1;simp only at *
  omega
 have HL:=hid hlen;have HB:=hid (hb.T1 (D0.none (B:=B) F1));have HQ:=hid hq;have HW:=hid I0;have I3:=hid b1;have E1:=hid F1;clear I0 F1 h hq hb hlen b1;go_enter func24,ntmps24;go_wp2_with fail
 rw[HW];refine HI.mono ?_;rintro e w2 ⟨rfl,F2⟩;obtain⟨f0,f1,fz,fl⟩:=cells2 (F2.heap I3 id);have h2:=H1.J0 F2;have g17:=h2.sc.c17;have ls:=h2.sc.lt;have nl:=h2.mem.xW;have HG:=hid (fun W (F:Fq w2 W)=>(lA0 (h2.mem.fr F id id id) p).mono
  (fun (e:Ending) W' ⟨he,hm,F'⟩=>(⟨by rw[he,HQ];rfl,hm,Fr.trans (S:=fun b=>b=B.bp) (S':=fun b=>b=B.bp) (F.mono nE) F' nI,F'⟩ :
   e=rT (tU #[.agg #[iI qs,sL qa ql qc,bO qd],bO true])/\cR W' B.bc B.bp B.bm x.places x.mem/\Fr (fun b=>b=B.bp) w2 W'/\Fr (fun b=>b=B.bp) W W')))
 have bD:=hid (HB.T1 (D0.none (B:=B) F2));have NX:=hid (show ¬ w2.heap.size=B.bp by omega);have NS:=hid (h2.qh (r:=.s) (r':=.bp) dC);have NW:=hid (show ¬ w.heap.size=B.bp by
  have:=H1.heaps .bp;have h3:=qJ I3.o;intro e;rw[e] at h3;have h4:=this.2.2.2;simp only[P0.at_] at h4;rw[h4] at h3;simp[r8.kind] at h3)
 have m1:¬ w2.heap.size=B.s:=oM
 have m2:¬ w2.heap.size=w.heap.size:=oM
 have H2:=hid h2;have Y0:=hid F2;clear h2 F2 nl;go_wp2
 go_region_held3 (fun W=>W.cell? (aA B.s 17)=some (pO (aP B.bc 0))/\W.cell? w=some (iI p)) (go_keep)
  ((go_at_call 86;refine (HG _ (by first|exact (fR.alloc _)|exact fR|exact (fR.drew)|exact (fR.alloc _).drew|exact (fR.drew.alloc _))).mono ?_;rintro e w7 ⟨rfl,hm,F7,F8⟩;have e0:=fun (i:Nat) (hh:w2.heap.size<_)=>F8.cell (p:=⟨w2,i,none⟩) hh NX.o;have ez:=fun (i:Nat) (hh:w2.heap.size<_)=>World.frozen?_of_block (a:=⟨w2,i,none⟩) (F8.block w2.heap.size hh NX.o);have EB:=hid fun (hh:w2.heap.size<_)=>F8.block w2.heap.size hh NX.o;have el:=F8.size;have el7:=F7.size;have m3:¬ w7.heap.size=B.s:=oM;have m4:¬ w7.heap.size=w.heap.size:=oM;have g17:=(F7.cell (p:=⟨B.s,17,none⟩) ls NS.o).trans g17;have f0:=(F7.cell (p:=⟨w,0,none⟩) fl NW.o).trans f0;have f1:=(F7.cell (p:=⟨w,1,none⟩) fl NW.o).trans f1;have lX:=hid F7;have HM:=hid hm;clear F7 hm F8))
 all_goals
  have lw7:w.heap.size<w7.heap.size:=oM
  have FA:eI B [.bp] w1 w7:=(Y0.mono nE).trans lX (fun b _ h=>⟨.bp,by simp,h⟩);have lq:X1 w7 B x:=H1.Zb FA HM.o;have U3:=D0.heap (B:=B) (H1.T1 FA) I3 dC;have E6:=HB.T1 (B:=B) (H1.T1 FA);have H7:=hi2 lq (aI (show D0 B w w7 from (D0.none E1.o).trans (H1.T1 FA)) E6);clear FA lq U3 E6 m3 m4 m1 m2
 .by_cases hst:qs=st
  .subst hst;go_wp2_with fail
   have FN:Fq w7 (w7.alloc (.cells #[iI qs,sL qa ql qc,bO qd] 162)):=fR.alloc _;refine (BQ (H7.2.2.T1 (B:=B) (D0.none FN)).slb oM).mono ?_;rintro e w9 ⟨a',c',rfl,R7,F9⟩;have H9:=hi2 R7 (FN.trans F9 nI);clear R7 F9 FN;go_wp2
   go_ret2;refine⟨?_,H7.1.J0 H9.2,H7.2.1.trans (D0.none H9.2)⟩;rw[if_pos rfl];exact⟨a',c',by rw[HL];rfl,by rw[HL];exact H9.1⟩
  .have hne:(qs != st)=true:=by simpa using hst
   go_wp2
   go_ret2;have FN:Fq w7 (w7.alloc (.cells #[iI qs,sL qa ql qc,bO qd] 162)):=fR.alloc _;refine⟨?_,H7.1.J0 FN,H7.2.1.trans (D0.none FN)⟩;rw[if_neg hst];rfl
 .have vG:w7.heap[w2.heap.size]?=some (.cells #[iI 0,sL none 0 0,bO false] 162):=(EB.o sP).trans (han _ _);have HZ7:=hid vG;clear vG;have FN:Fr (fun b=>b=w2.heap.size) w7 (((w7.setCell w2 (iI qs)).setCell (aA w2 1) (sL qa ql qc)).setCell (aA w2 2) (bO qd)):=Fr.rt (S:=fun b=>b=w2.heap.size) (b:=w2.heap.size) fR rfl _ _ _;have Jj:=H7.1.M3 FN HZ7 dC;have dJ:=H7.2.2.M3 FN HZ7 dC;have MR:D0 B w (((w7.setCell w2 (iI qs)).setCell (aA w2 1) (sL qa ql qc)).setCell (aA w2 2) (bO qd)):=by
   have zO:w<=(w2:Nat):=oM
   exact ((H7.2.1.setCell (a:=⟨w2,0,none⟩) (fun h=>absurd h sO) _).setCell (a:=⟨w2,1,none⟩) (fun h=>absurd h sO) _).setCell (a:=⟨w2,2,none⟩) (fun h=>absurd h sO) _
  have H8:=hi2 Jj (aI MR dJ);clear FN Jj MR dJ;by_cases hst:qs=st
  .subst hst;go_wp2_with fail
   refine (BQ H8.2.2.slb oM).mono ?_;rintro e w9 ⟨a',c',rfl,R7,F9⟩;have H9:=hi2 R7 F9;clear R7 F9;go_wp2
   go_ret2;refine⟨?_,H8.1.J0 H9.2,H8.2.1.trans (D0.none H9.2)⟩;rw[if_pos rfl];exact⟨a',c',by rw[HL];rfl,by rw[HL];exact H9.1⟩
  .have hne:(qs != st)=true:=by simpa using hst
   go_wp2
   go_ret2;refine⟨?_,H8.1,H8.2.1⟩;rw[if_neg hst];rfl
end SF
end
section
open Go.RowKit Go.Sg Go.Sg.Bits Go.Sg.r4 CP SF
namespace SF
def nx.J0 {w w':w9}{B:P0}{la:Option Addr}{ll lc:Nat}{bs:List Int}(h:nx w B la ll lc bs)(F:Fq w w')(hB:B.base<=w.heap.size):nx w' B la ll lc bs:=by
 refine⟨⟨h.1.Y6.fr F fun _ _ _ _ h=>h,h.1.at_⟩,fun b off e=>?_⟩;rcases h.2 b off e with h0|h1|h1
 .exact .inl h0
 .exact .inr (.inl h1)
 .refine .inr (.inr ?_);cases hb:w.heap[b]? with
  | none=>rw[kd,hb] at h1;cases h1
  | some o=>rw[kd,F.heap hb id];rw[kd,hb] at h1;exact h1
end SF
