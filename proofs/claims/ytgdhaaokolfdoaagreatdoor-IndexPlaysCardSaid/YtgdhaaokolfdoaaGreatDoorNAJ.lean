/- A pack of texts. Conditions: those that each names. -/
import Derived.Test.YtgdhaaokolfdoaaGreatDoorNAG
import Derived.Test.YtgdhaaokolfdoaaGreatDoorNAI
set_option maxHeartbeats 16000000
set_option maxRecDepth 100000
set_option linter.all false
namespace Go.Proofs.YtgdhaaokolfdoaaGreatDoor
section
open Go.RowKit Go.Sg
theorem zr0 {w:World}{base d bf bq:Nat}{D:Dev}(h:bt0 w base d bf bq D)(hbase:base<=w.heap.size)(hdown:D.down=false)(hacts:D.acts<=1000000)(harm:D.armed<=9223372036854775807)(hmany:D.loose.length<=100000)(at_:Nat)(hat:at_<D.sectors)
  {la:Option Addr} {ll lc:Nat} {bs:List Int} (hb:ByV w la ll lc bs) (hby:∀ x ∈ bs,0<=x/\x<256) (kind place stamp:Nat) (hk:1<=kind/\kind<=4) (hp:place<=2147483647) (hs:stamp<9223372036854775808) (hl:ll+19<=D.size) :
  Calls Tryz.prog 170 #[.pointer (some ⟨d,0,none⟩),.int .i64 at_,.agg #[.int .i64 kind,.int .i64 place,.int .i64 stamp,.slice la ll lc]] w (WritePost base d bf bq D at_ (af0 D.size kind place stamp bs) w):=by
 obtain⟨w1,hw1⟩:=eX (w.alloc (.cells #[.int .i64 kind,.int .i64 place,.int .i64 stamp,.slice la ll lc] 166))
 have F1:Fq w w1:=by rw[<- hw1];exact (Fr.refl _ _).alloc _
 have b1:w1.heap[w.heap.size]?=some (.cells #[.int .i64 kind,.int .i64 place,.int .i64 stamp,.slice la ll lc] 166):=by rw[<- hw1];exact han _ _
 obtain⟨c0,c1,c2,c3⟩:w1.cell? ⟨w.heap.size,0,none⟩=some (.int .i64 kind)/\w1.cell? ⟨w.heap.size,1,none⟩=some (.int .i64 place)/\w1.cell? ⟨w.heap.size,2,none⟩=some (.int .i64 stamp)/\w1.cell? ⟨w.heap.size,3,none⟩=some (.slice la ll lc):=
  ⟨by simpa using coh b1 0,by simpa using coh b1 1,by simpa using coh b1 2,by simpa using coh b1 3⟩
 have lt1:=loh b1;have hz:=h.rg.2;have HSZ:=hid (fun W (F:Fq w1 W)=>size_at (w:=W) (d:=d) (n:=D.size) (by obtain⟨lv,hd,_⟩:=h.dc;have:=coh (F.heap (F1.heap hd id) id) 1;simpa using this));have HBU:=hid (fun W (F:Fq w1 W)=>(ne0 (hb.fr (F1.trans F nI) (fun _ _ _ h=>h)) hby D.size kind place stamp hz.1 hz.2 hk hp hs hl).mono (fun (e:Ending) W' ⟨a,c,he,hv,F'⟩=>(⟨a,c,he,hv,F.trans F' nI,F'⟩:∃ a c,e=Ending.returned (.tuple #[.slice a D.size c,.int .i64 0])/\ByV W' a D.size c (af0 D.size kind place stamp bs)/\Fq w1 W'/\Fq W W')));have H:=hid h;have HF1:=hid F1;have HW1:=hid hw1;have HD:=hid hdown;clear h hb hby hw1 F1 b1 hdown;go_enter Tryz.func170,Tryz.ntmps170;go_wp2
 rw[HW1.out];go_region_held3 (fun W=>W.cell? ⟨w.heap.size,0,none⟩=some (.int .i64 kind)/\W.cell? ⟨w.heap.size,1,none⟩=some (.int .i64 place)/\W.cell? ⟨w.heap.size,2,none⟩=some (.int .i64 stamp)/\W.cell? ⟨w.heap.size,3,none⟩=some (.slice la ll lc)) (go_keep)
  (first
   | (go_at_call 93;refine (HSZ.out _ (by first|exact Fr.refl _ _|exact (Fr.refl _ _).drew)).mono ?_;rintro e w' ⟨rfl,rfl⟩)
   | (go_at_call 220;refine (HBU.out _ (by first|exact Fr.refl _ _|exact (Fr.refl _ _).drew)).mono ?_;rintro e w2 ⟨ba,bc,rfl,hv,F2,F2'⟩;have c0:=(F2'.cell (p:=⟨w.heap.size,0,none⟩) (by first|exact lt1|(simp;omega)) id).trans c0;have c1:=(F2'.cell (p:=⟨w.heap.size,1,none⟩) (by first|exact lt1|(simp;omega)) id).trans c1;have c2:=(F2'.cell (p:=⟨w.heap.size,2,none⟩) (by first|exact lt1|(simp;omega)) id).trans c2;have c3:=(F2'.cell (p:=⟨w.heap.size,3,none⟩) (by first|exact lt1|(simp;omega)) id).trans c3;have H2:=hi2 hv F2;clear hv F2 F2'))
 have F02:=HF1.out.trans H2.out.2 nI;have HWR:=hid (mg0 (H.out.fr F02 id id id (fun _ _ _ _ _ h=>h)) (nT hbase F02.size) HD.out hacts harm hmany at_ hat H2.out.1);clear c0 c1 c2 c3 F02;go_wp2_with fail
 refine HWR.out.mono ?_;rintro e w3 ⟨rfl,hD3,F3⟩;have H3:=hi2 hD3 F3;clear hD3 F3;generalize hif:(if D.act.down=true then (4:Int) else 0)=er;have HIF:=hid hif;clear hif;go_wp2
 go_ret;exact⟨by rw[HIF.out];rfl,H3.out.1,lH0.trans (w1:=w1) (HF1.out.mono nE) (lH0.trans (w1:=w2) (H2.out.2.mono nE) H3.out.2)⟩
end
section
open Go.RowKit Go.Sg Go.Sg.Bits Go.Sg.Clk CP
variable {w:World}{B:Blk}{x:Sto}
theorem ax0.uh0 (h:ax0 w B x){r:cE0}(h1:r≠.d)(h2:r≠.bq):¬ lH0 w B.base B.d B.bq (B.at_ r):=by
 intro e;rcases e with e|e|⟨_,c,t,ht,hc⟩
 ·exact h1 (h.inj (r':=.d) e)
 ·exact h2 (h.inj (r':=.bq) e)
 ·have hk:=bY0 hc;rw[(h.heaps r).2.2.2] at hk;rcases ht with rfl|rfl <;> cases r <;> simp[cE0.kind] at hk
theorem ax0.qO0 {w':World}(h:ax0 w B x){D:Dev}(hD:bt0 w' B.base B.d B.bf B.bq D)(F:Fr (lH0 w B.base B.d B.bq) w w')(h1:D.sectors=x.dev.sectors)(h2:D.size=x.dev.size) :
  ax0 w' B { x with dev:=D }/\FrB B w w':=by
 have nS:=fun r (h1:r≠cE0.d) (h2:r≠cE0.bq)=>h.uh0 h1 h2
 have n5:∀ g c,w.heap[g]?=some (.cells c 5)->¬ lH0 w B.base B.d B.bq g:=fun g c hg e=>by
  rcases e with e|e|⟨_,c',t,ht,hc⟩
  ·obtain⟨lv,hd,_⟩:=h.dev.dc;rw[e,hd] at hg;cases hg
  ·obtain⟨l,ck,hq,_⟩:=h.dev.past;rw[e,hq] at hg;cases hg
  ·rw[hg] at hc;cases hc;rcases ht with ht|ht <;> cases ht
 refine⟨⟨F.heap h.s (nS .s dC dC),hD,h.bits.fr F (nS .bs dC dC) (nS .bw dC dC),h.fr.fr F (nS .fr dC dC),h.dy.fr F (nS .dy dC dC),h.de.fr F (nS .de dC dC),
  h.mem.fr F (nS .bc dC dC) (nS .bp dC dC) (nS .bm dC dC),fun k p hp=>?_,h.ne,h.ge,?_,h.inr⟩,?_⟩
 ·obtain⟨bs,hb,hl⟩:=h.load k p hp;exact⟨bs,hb.fr F n5,hl⟩
 ·obtain⟨a,b,c,d,e⟩:=h.rg;exact⟨a,b,c,by rw[show ({ x with dev:=D }:Sto).dev.sectors=x.dev.sectors from h1];exact d,by rw[show ({ x with dev:=D }:Sto).dev.size=x.dev.size from h2];exact e⟩
 ·refine F.mono fun b hb e=>?_
  rcases e with e|e|⟨e1,c,t,ht,hc⟩
  ·rw[e];exact⟨(h.heaps .d).1,⟨(h.heaps .d).2.1,.inr ⟨.d,rfl⟩⟩⟩
  ·rw[e];exact⟨(h.heaps .bq).1,⟨(h.heaps .bq).2.1,.inr ⟨.bq,rfl⟩⟩⟩
  ·exact⟨e1,Mut.cells hc (by rcases ht with rfl|rfl <;> decide),.inl ⟨c,t,_,hc⟩⟩
def wt0 (B:Blk)(x:Sto)(k:Int)(st:Int)(bs:List Int)(w:World)(e:Ending)(w':World):Prop:=
 ∃ D err,e = .returned (.int .i64 err)/\(D,err)=x.dev.write (x.first+k) (af0 x.dev.size 2 k.toNat st.toNat bs)/\ax0 w' B { x with dev:=D }/\FrB B w w'
namespace SF
theorem out_ok {w:World}{B:Blk}{x:Sto}(h:ax0 w B x)(hdown:x.dev.down=false)(hacts:x.dev.acts<=1000000)(harm:x.dev.armed<=9223372036854775807)(hmany:x.dev.loose.length<=100000)(n:Nat)(hn:n<x.pages)(st:Nat)(hst:st<9223372036854775808)
  {la:Option Addr} {ll lc:Nat} {bs:List Int} (di:Bool) (hb:ByV w la ll lc bs) (hby:∀ x ∈ bs,0<=x/\x<256) (hl:ll<=x.room) :
  Calls Tryz.prog 110 #[B.ptr,.int .i64 n,.agg #[.int .i64 st,.slice la ll lc,.bool di]] w (wt0 B x n st bs w):=by
 obtain⟨w1,hw1⟩:=eX (w.alloc (.cells #[.int .i64 st,.slice la ll lc,.bool di] 162))
 have F1:Fq w w1:=by rw[<- hw1];exact (Fr.refl _ _).alloc _
 have b1:w1.heap[w.heap.size]?=some (.cells #[.int .i64 st,.slice la ll lc,.bool di] 162):=by rw[<- hw1];exact han _ _
 obtain⟨c0,c1,c2,cz,cl⟩:=cells3 b1;have h1:=h.fr0 F1;have q0:=h1.sc.c0;have q9:=h1.sc.c9;have ql:=h1.sc.lt;obtain⟨at_,hat⟩:=iZ (show 0<=x.first+n by have:=h.rg.2.2.1;omega);have hats:at_<x.dev.sectors:=by have:=h.rg.2.2.2.1;omega
 have hsec:=h.dev.rg.1.2;have hwr:IntKind.i64.wrap (x.first+(n:Int))=(at_:Int):=by rw[IntKind.wrap_i64];omega
 have hBw:B.base<=w.heap.size:=by have:=(h.heaps .s);omega
 obtain⟨er,her⟩:∃ er:Int,(if x.dev.act.down=true then (4:Int) else 0)=er:=⟨_,rfl⟩
 have HP:=hid (fun W (F:Fq w1 W)=>(zr0 ((h1.fr0 F).dev) (nT hBw (F1.trans F nI).size) hdown hacts harm hmany at_ hats (hb.fr (F1.trans F nI) (fun _ _ _ h=>h)) hby 2 n st oM (by have:=h.rg.2.2.2.1;have:=h.rg.2.2.1;omega) hst (by have:=h.rg.2.2.2.2;omega)).mono
  (fun (e:Ending) W' ⟨he,hD,hF⟩=>(⟨by rw[he,her],(h1.fr0 F).qO0 hD hF rfl rfl,F⟩:e=Ending.returned (.int .i64 er)/\(ax0 W' B { x with dev:={ x.dev.act with loose:=x.dev.loose++[((at_:Int),af0 x.dev.size 2 n st bs)] } }/\FrB B W W')/\Fq w1 W)))
 have hwt:({ x.dev.act with loose:=x.dev.loose++[((at_:Int),af0 x.dev.size 2 n st bs)] },if x.dev.act.down=true then (4:Int) else 0)=x.dev.write (x.first+n) (af0 x.dev.size 2 (n:Int).toNat (st:Int).toNat bs):=by
  rw[Dev.write,hdown,hat];have hbl:=hb.len;have h3:(af0 x.dev.size 2 n st bs).length=x.dev.size:=cu0 (by have:=h.rg.2.2.2.2;omega);simp only[lI9,if_false,lG9,Int.ofNat_eq_natCast];rw[if_neg (show ¬ ((at_:Int)<0\/(x.dev.sectors:Int)<=(at_:Int)) by omega),if_neg (show ¬ (af0 x.dev.size 2 n st bs).length≠x.dev.size by rw[h3];simp)]
 rw[her] at hwt;have HWT:=hid hwt;have HW1:=hid hw1;have HF1:=hid F1;have HB1:=hid b1;clear hwt hw1 F1 b1 h h1 hb hby hdown hat her;go_enter Tryz.func110,Tryz.ntmps110;go_wp2
 rw[HW1.out];go_region_held3 (fun W=>(W.cell? ⟨B.s,0,none⟩=some (.pointer (some ⟨B.d,0,none⟩))/\W.cell? ⟨B.s,9,none⟩=some (.int .i64 x.first))/\(W.cell? ⟨w.heap.size,0,none⟩=some (.int .i64 st)/\W.cell? ⟨w.heap.size,1,none⟩=some (.slice la ll lc))) (go_keep)
  ((go_at_call 170;refine (HP.out _ (by first|exact Fr.refl _ _|exact (Fr.refl _ _).drew)).mono ?_;rintro e w2 ⟨rfl,hS2,F2⟩;have H2:=hi2 hS2 F2;have q0:=hS2.1.sc.c0;have q9:=hS2.1.sc.c9;obtain⟨c0,c1,c2,cz,cl⟩:=cells3 (hS2.2.heap (F2.heap HB1.out id) dC);clear hS2 F2))
 go_wp2
 go_ret;exact⟨_,er,rfl,HWT.out,H2.out.1.1,(FrB.none HF1.out).trans ((FrB.none H2.out.2).trans H2.out.1.2)⟩
end SF
def dh0 (w:World)(x:Sto):Prop:=∀ k q,x.mem k=some q->(0<=k/\k<x.pages)/\(0<=q.stamp/\q.stamp<9223372036854775808)/\∃ bs,ByV w q.la q.ll q.lc bs/\bs.length<=x.room/\∀ b ∈ bs,0<=b/\b<256
structure wx0 (D:Dev):Prop where
 down:D.down=false
 acts:D.acts<=1000000
 armed:D.armed<=9223372036854775807
 many:D.loose.length<=100000
namespace SF
theorem gp0 {w:World}{B:Blk}{x:Sto}(h:ax0 w B x)(hg:dh0 w x)(hu:wx0 x.dev)(n:Int)(p:Pg)(hp:∃ bs,ByV w p.la p.ll p.lc bs/\bs.length<=x.room) :
  Calls Tryz.prog 82 #[B.ptr,.int .i64 n,p.val] w (lE0 B x n p w):=by
 refine keep_any h n p ?_ ?_
 ·intro W g hgo hd hm F;refine⟨0,g,x.dev,rfl,hgo,?_,h.nm0 F hm (ix0 h F hp),h.frB F⟩;cases g with
  | none=>exact⟨rfl,rfl⟩
  | some g =>
   obtain⟨k,q⟩:=g;have hd':q.dirty=false:=hd;show (if q.dirty=true then _ else _);rw[if_neg (by rw[hd'];decide)];exact⟨rfl,rfl⟩
 ·intro W g hgo hd hm F;obtain⟨k,q⟩:=g;have hq:x.mem k=some q:=hgo.2.1;obtain⟨⟨k0,k1⟩,⟨s0,s1⟩,bs,hb,hbl,hby⟩:=hg k q hq;obtain⟨kn,rfl⟩:=iZ k0;obtain⟨st,la,ll,lc,di⟩:=q;obtain⟨sn,rfl⟩:=iZ s0;have hS:=h.nm0 F hm (ix0 h F hp);have hll:bs.length=ll:=hb.len;have s1':(sn:Int)<9223372036854775808:=s1;have k1':(kn:Int)<x.pages:=k1;have hbl':bs.length<=x.room:=hbl;refine (out_ok hS hu.down hu.acts hu.armed hu.many kn (by show kn<x.pages;omega) sn oM di (h.byv F hb) hby (by show ll<=x.room;omega)).mono ?_;rintro e W' ⟨D,err,rfl,hw,hS',hF'⟩;refine⟨err,rfl,err,some ((kn:Int),⟨sn,la,ll,lc,di⟩),D,rfl,hgo,?_,hS',(h.frB F).trans hF'⟩;unfold lG0;simp only;rw[if_pos hd];exact⟨bs,(h.byv F hb).frB hF',hw⟩
end SF
namespace SF
def moved (x:Sto)(n m:Nat)(p:Pg)(g:Option (Int × Pg))(D:Dev)(err:Int):Sto:=
 if err=0 then { tk x m with mem:=ej0 x.mem m p g,dev:=D,dying:=ed0 x.dying n true } else { tk x m with mem:=ej0 x.mem m p g,dev:=D }
def Bi0 (B:Blk)(x:Sto)(n:Nat)(bs:List Int)(w:World)(e:Ending)(w':World):Prop:=
 ∃ m err g D p,br0 x.taken x.pages x.hand m/\e = .returned (.tuple #[vF0 err m x.gen,.int .i64 err])/\cc0 x.mem x.places m g/\lG0 w' x g D err /\
  ax0 w' B (moved x n m p g D err)/\(p.stamp=x.gen/\p.dirty=true/\ByV w' p.la p.ll p.lc bs)/\FrB B w w'
theorem sA0 {w:World}{B:Blk}{x:Sto}(h:ax0 w B x)(n:Nat)(st:Int){la:Option Addr}{ll lc:Nat}{bs:List Int}(hl:ll<=x.room)(hp:n<x.pages)(ht:x.taken n=true)(hf:x.fresh n=false)
  (hk:∀ W,ax0 W B x->Fq w W->Calls Tryz.prog 22 #[B.ptr,.slice la ll lc] W (lC0 B x bs W)) :
  Calls Tryz.prog 26 #[B.ptr,.agg #[.int .i64 n,.int .i64 st],.slice la ll lc] w (Bi0 B x n bs w):=by
 obtain⟨w1,hw1⟩:=eX ((w.alloc (.cells #[.int .i64 n,.int .i64 st] 35)).alloc (.cells #[.int .i64 0,.int .i64 0] 35))
 obtain⟨b0,b1,F1⟩:=ai0 hw1;obtain⟨d0,d1,dz,dl⟩:=cells2 b0;have c11:=h.sc.c11;have l:=h.sc.lt;have HI:=hid (rm0 (h.fr0 F1) n st oM oM);have H1:=hid (h.fr0 F1);have HT:=hid ht;have HF:=hid hf;have HW:=hid hw1;have HB0:=hid b0;have HB1:=hid b1;have HF1:=hid F1;have HK:=hid hk;clear hw1 b0 b1 F1 h ht hf hk;go_enter Tryz.func26,Tryz.ntmps26;go_wp2_with fail
 rw[HW.out];refine HI.out.mono ?_;rintro e w2 ⟨rfl,F2⟩;obtain⟨e0,e1,ez,el⟩:=cells2 (F2.heap HB1.out id);obtain⟨f0,f1,fz,fl⟩:=cells2 (F2.heap HB0.out id);have h2:=H1.out.fr0 F2;have g13:=h2.sc.c13;have g14:=h2.sc.c14;have HH:=hid (fun W (F:Fq w2 W)=>(rs0 (h2.bits.fr F id id) n hp));rw[HT.out] at HH;obtain⟨lf,cf,hfm,hfs⟩:=h2.fr.ex;have hlk:=fun (W:World) (hW:W.heap[B.fr]?=some (.map (ents lf) cf))=>bF0 (P:=Tryz.prog) (T:=153) false Tryz.underlying153 Tryz.underlying3 Tryz.xJ0 hW n
 rw[hfs.at_,HF.out] at hlk;simp only[lI9,if_false,Option.getD_none] at hlk;have HF2:=hid F2;have H2:=hid h2;clear F2 h2 hfs;go_wp2
 go_quiet ((go_at_call 88;exact co0 (HH.out _ ((Fr.refl _ _).drewN _))))
 go_wp2
 go_quiet (fail)
 go_wp2_with fail
 have HBB:=hi2 (HF2.out.heap HB0.out id) (HF2.out.heap HB1.out id);have ls:B.s<w2.heap.size:=H2.out.sc.lt;have ms:¬ w.heap.size+1=B.s:=oM
 have HK2:=hid (fun W (F:Fq w2 W)=>(HK.out W (H2.out.fr0 F) ((HF1.out.trans HF2.out nI).trans F nI)).mono
  (fun (e:Ending) W' hN=>(⟨W,F,hN⟩:∃ W,Fq w2 W/\lC0 B x bs W e W')))
 clear hlk hfm HB0 HB1 d0 d1 dz c11 g13 g14 fz;refine (HK2.out _ (by first|exact (Fr.refl _ _).drewN _|exact ((Fr.refl _ _).drewN _).drew)).mono ?_;rintro e w5 ⟨W,FW,m,err,g,D,p,hm,rfl,hg,ho,hS5,hpp,F5⟩;obtain⟨f0,f1,fz,fl⟩:=cells2 (F5.heap (FW.heap HBB.out.1 id) dC);have hb5:=F5.heap (FW.heap HBB.out.2 id) dC;have hb6:=F5.heap (FW.heap HBB.out.1 id) dC;have FF:FrB B w w5:=(FrB.none ((HF1.out.trans HF2.out nI).trans FW nI)).trans F5;have hmn:(tk x m).fresh n=false:=by
  have:¬ (n:Int)=(m:Int):=fun e=>by
   have e':n=m:=oM
   rw[e',hm.2.1] at HT;cases HT.out
  simp[tk,ed0,this,HF.out]
 have HMN:=hid hmn;have H5:=hi2 hm (aI hg (aI ho (aI hS5 (aI hpp (aI FF (aI hb5 hb6))))));have ms5:¬ w5.heap.size=w.heap.size:=oM
 have ms6:¬ w5.heap.size=w.heap.size+1:=by have:=loh hb5;omega
 clear hm hg ho hS5 hpp F5 FW FF hb5 hb6 hmn;by_cases he:err=0
 ·subst he;simp only[vF0,if_true];obtain⟨w6,hw6⟩:=eX (w5.alloc (.cells #[.int .i64 m,.int .i64 x.gen] 35))
  have F6:Fq w5 w6:=by rw[<- hw6];exact (Fr.refl _ _).alloc _
  have b6:w6.heap[w5.heap.size]?=some (.cells #[.int .i64 m,.int .i64 x.gen] 35):=by rw[<- hw6];exact han _ _
  have HG:=hid (pp0 (H5.out.2.2.2.1.fr0 F6) (n:=n) hp HMN.out);have H6:=hi2 F6 b6;have HW6:=hid hw6;clear hw6 F6 b6;go_wp2_with fail
  rw[HW6.out];refine HG.out.mono ?_;rintro e w7 ⟨rfl,hS7,F7⟩;have F57:FrB B w5 w7:=(FrB.none H6.out.1).trans ((H5.out.2.2.2.1.fr0 H6.out.1).frB F7);have F67:FrB B w6 w7:=(H5.out.2.2.2.1.fr0 H6.out.1).frB F7;obtain⟨g0,g1,gz,gl⟩:=cells2 (F67.heap H6.out.2 dC);have hb7:=F57.heap H5.out.2.2.2.2.2.2.1 dC;obtain⟨k0,k1,kz,kl⟩:=cells2 hb7;have H7:=hi2 hS7 (aI F57 hb7);clear hS7 F7 F57 F67 hb7;go_wp2
  refine bodyPost_ret (v:=.tuple #[.agg #[.int .i64 m,.int .i64 x.gen],.int .i64 0]) sR rfl ?_;obtain⟨hS7,F57,hb7⟩:=H7.out;obtain⟨hm,hg,ho,hS5,hpp,FF,hb5,hb6⟩:=H5.out;have FL:Fr (fun b=>b=w.heap.size+1) w7 ((w7.setCell ⟨w.heap.size+1,0,none⟩ (.int .i64 m)).setCell ⟨w.heap.size+1,1,none⟩ (.int .i64 x.gen)):=((Fr.refl (fun b=>b=w.heap.size+1) _).setCell (a:=⟨w.heap.size+1,0,none⟩) (fun _=>rfl) _).setCell (a:=⟨w.heap.size+1,1,none⟩) (fun _=>rfl) _;refine⟨m,0,g,D,p,hm,rfl,hg,eb0 (nj0 ho F57) FL hb7 dC,?_,⟨hpp.1,hpp.2.1,(hpp.2.2.frB F57).frL FL hb7 dC⟩,?_⟩
  ·have e:moved x n m p g D 0=rv0 { tk x m with mem:=ej0 x.mem m p g,dev:=D } n:=by
    have:({ tk x m with mem:=ej0 x.mem m p g,dev:=D }:Sto).fresh n=false:=HMN.out;rw[rv0,this,moved,if_pos rfl];rfl
   rw[e];exact hS7.frL FL hb7 dC
  ·exact ((FF.trans F57).setCell (a:=⟨w.heap.size+1,0,none⟩) (fun h=>absurd h sP) _).setCell (a:=⟨w.heap.size+1,1,none⟩) (fun h=>absurd h sP) _
 ·have he2:(err == 0)=false:=by simpa using he
  simp only[vF0,if_neg he];obtain⟨k0,k1,kz,kl⟩:=cells2 H5.out.2.2.2.2.2.2.1;go_wp2
  refine bodyPost_ret (v:=.tuple #[.agg #[.int .i64 0,.int .i64 0],.int .i64 err]) sR rfl ?_;obtain⟨hm,hg,ho,hS5,hpp,FF,hb5,hb6⟩:=H5.out;have FL:Fr (fun b=>b=w.heap.size+1) w5 (((w5.setCell ⟨w.heap.size+1,0,none⟩ (.int .i64 0)).setCell ⟨w.heap.size+1,1,none⟩ (.int .i64 0)).alloc (.cells #[.int .i64 0,.int .i64 0] 35)):=(((Fr.refl (fun b=>b=w.heap.size+1) _).setCell (a:=⟨w.heap.size+1,0,none⟩) (fun _=>rfl) _).setCell (a:=⟨w.heap.size+1,1,none⟩) (fun _=>rfl) _).alloc _;refine⟨m,err,g,D,p,hm,by rw[vF0,if_neg he],hg,eb0 ho FL hb5 dC,?_,⟨hpp.1,hpp.2.1,hpp.2.2.frL FL hb5 dC⟩,?_⟩
  ·rw[moved,if_neg he];exact hS5.frL FL hb5 dC
  ·exact ((FF.setCell (a:=⟨w.heap.size+1,0,none⟩) (fun h=>absurd h sP) _).setCell (a:=⟨w.heap.size+1,1,none⟩) (fun h=>absurd h sP) _).alloc _
end SF
theorem ax0.yN0 {W:World}(h:ax0 w B x)(F:FrR B [.bp] w W)(hm:bL0 W B.bc B.bp B.bm x.places x.mem):ax0 W B x:=by
 have S:=h.stays F;exact⟨S.s dC,S.dev dC dC dC,S.bits dC dC,S.fr dC,S.dy dC,S.de dC,hm,S.load,h.ne,h.ge,h.rg,h.inr⟩
namespace SF
def tj0 (B:Blk)(x:Sto)(q:Pg)(st:Int)(bs:List Int)(w:World)(e:Ending)(w':World):Prop:=
 (if q.stamp=st then ∃ a c,e = .returned (.tuple #[.slice a bs.length c,.int .i64 0])/\ByV w' a bs.length c bs else e = .returned (.tuple #[.slice none 0 0,.int .i64 5]))/\ax0 w' B x/\FrB B w w'
theorem uP0 {w:World}{B:Blk}{x:Sto}(h:ax0 w B x)(p st:Int)(h0:0<=p)(h1:p<x.pages){q:Pg}(hq:x.mem p=some q){bs:List Int}(hb:ByV w q.la q.ll q.lc bs) :
  Calls Tryz.prog 24 #[B.ptr,.agg #[.int .i64 p,.int .i64 st]] w (tj0 B x q st bs w):=by
 obtain⟨qs,qa,ql,qc,qd⟩:=q;obtain⟨w1,hw1⟩:=eX (w.alloc (.cells #[.int .i64 p,.int .i64 st] 35))
 have F1:Fq w w1:=by rw[<- hw1];exact (Fr.refl _ _).alloc _
 have b1:w1.heap[w.heap.size]?=some (.cells #[.int .i64 p,.int .i64 st] 35):=by rw[<- hw1];exact han _ _
 obtain⟨d0,d1,dz,dl⟩:=cells2 b1;have HI:=hid (rm0 (h.fr0 F1) p st h0 h1);have H1:=hid (h.fr0 F1);have hlen:=hb.len;have hlb:ql<=493:=by
  obtain⟨bs',hb',hl'⟩:=h.load p _ hq;have:=hb'.len;have:=h.rg.1;simp only at *
  omega
 have HL:=hid hlen;have HB:=hid (hb.frB (FrB.none (B:=B) F1));have HQ:=hid hq;have HW:=hid hw1;have HB1:=hid b1;have HF1:=hid F1;clear hw1 F1 h hq hb hlen b1;go_enter Tryz.func24,Tryz.ntmps24;go_wp2_with fail
 rw[HW.out];refine HI.out.mono ?_;rintro e w2 ⟨rfl,F2⟩;obtain⟨f0,f1,fz,fl⟩:=cells2 (F2.heap HB1.out id);have h2:=H1.out.fr0 F2;have g17:=h2.sc.c17;have ls:=h2.sc.lt;have nl:=h2.mem.lts;have HG:=hid (fun W (F:Fq w2 W)=>(ls0 (h2.mem.fr F id id id) p).mono
  (fun (e:Ending) W' ⟨he,hm,F'⟩=>(⟨by rw[he,HQ.out];rfl,hm,Fr.trans (S:=fun b=>b=B.bp) (S':=fun b=>b=B.bp) (F.mono nE) F' nI,F'⟩ :
   e=Ending.returned (.tuple #[.agg #[.int .i64 qs,.slice qa ql qc,.bool qd],.bool true])/\bL0 W' B.bc B.bp B.bm x.places x.mem/\Fr (fun b=>b=B.bp) w2 W'/\Fr (fun b=>b=B.bp) W W')))
 have HB2:=hid (HB.out.frB (FrB.none (B:=B) F2));have NX:=hid (show ¬ w2.heap.size=B.bp by omega);have NS:=hid (h2.ner (r:=.s) (r':=.bp) dC);have NW:=hid (show ¬ w.heap.size=B.bp by
  have:=H1.out.heaps .bp;have h3:=bY0 HB1.out;intro e;rw[e] at h3;have h4:=this.2.2.2;simp only[Blk.at_] at h4;rw[h4] at h3;simp[cE0.kind] at h3)
 have m1:¬ w2.heap.size=B.s:=oM
 have m2:¬ w2.heap.size=w.heap.size:=oM
 have H2:=hid h2;have HF2:=hid F2;clear h2 F2 nl;go_wp2
 go_region_held3 (fun W=>W.cell? ⟨B.s,17,none⟩=some (.pointer (some ⟨B.bc,0,none⟩))/\W.cell? ⟨w.heap.size,0,none⟩=some (.int .i64 p)) (go_keep)
  ((go_at_call 86;refine (HG.out _ (by first|exact ((Fr.refl _ _).alloc _)|exact (Fr.refl _ _)|exact ((Fr.refl _ _).drew)|exact ((Fr.refl _ _).alloc _).drew|exact ((Fr.refl _ _).drew.alloc _))).mono ?_;rintro e w7 ⟨rfl,hm,F7,F8⟩;have e0:=fun (i:Nat) (hh:w2.heap.size<_)=>F8.cell (p:=⟨w2.heap.size,i,none⟩) hh NX.out;have ez:=fun (i:Nat) (hh:w2.heap.size<_)=>World.frozen?_of_block (a:=⟨w2.heap.size,i,none⟩) (F8.block w2.heap.size hh NX.out);have EB:=hid (fun (hh:w2.heap.size<_)=>F8.block w2.heap.size hh NX.out);have el:=F8.size;have el7:=F7.size;have m3:¬ w7.heap.size=B.s:=oM;have m4:¬ w7.heap.size=w.heap.size:=oM;have g17:=(F7.cell (p:=⟨B.s,17,none⟩) ls NS.out).trans g17;have f0:=(F7.cell (p:=⟨w.heap.size,0,none⟩) fl NW.out).trans f0;have f1:=(F7.cell (p:=⟨w.heap.size,1,none⟩) fl NW.out).trans f1;have HF7:=hid F7;have HM:=hid hm;clear F7 hm F8))
 all_goals
  have lw7:w.heap.size<w7.heap.size:=oM
  have FA:FrR B [.bp] w1 w7:=(HF2.out.mono nE).trans HF7.out (fun b _ h=>⟨.bp,by simp,h⟩);have hS7:ax0 w7 B x:=H1.out.yN0 FA HM.out;have hbx:=FrB.heap (B:=B) (H1.out.frB FA) HB1.out dC;have hb7:=HB.out.frB (B:=B) (H1.out.frB FA);have H7:=hi2 hS7 (aI (show FrB B w w7 from (FrB.none HF1.out).trans (H1.out.frB FA)) hb7);clear FA hS7 hbx hb7 m3 m4 m1 m2
 ·by_cases hst:qs=st
  ·subst hst;go_wp2_with fail
   have FN:Fq w7 (w7.alloc (.cells #[.int .i64 qs,.slice qa ql qc,.bool qd] 162)):=(Fr.refl _ _).alloc _;refine (fi0 (H7.out.2.2.frB (B:=B) (FrB.none FN)).slb oM).mono ?_;rintro e w9 ⟨a',c',rfl,hb9,F9⟩;have H9:=hi2 hb9 (FN.trans F9 nI);clear hb9 F9 FN;go_wp2
   go_ret2;refine⟨?_,H7.out.1.fr0 H9.out.2,H7.out.2.1.trans (FrB.none H9.out.2)⟩;rw[if_pos rfl];exact⟨a',c',by rw[HL.out];rfl,by rw[HL.out];exact H9.out.1⟩
  ·have hne:(qs != st)=true:=by simpa using hst
   go_wp2
   go_ret2;have FN:Fq w7 (w7.alloc (.cells #[.int .i64 qs,.slice qa ql qc,.bool qd] 162)):=(Fr.refl _ _).alloc _;refine⟨?_,H7.out.1.fr0 FN,H7.out.2.1.trans (FrB.none FN)⟩;rw[if_neg hst];rfl
 ·have hz7:w7.heap[w2.heap.size]?=some (.cells #[.int .i64 0,.slice none 0 0,.bool false] 162):=(EB.out sP).trans (han _ _);have HZ7:=hid hz7;clear hz7;have FN:Fr (fun b=>b=w2.heap.size) w7 (((w7.setCell ⟨w2.heap.size,0,none⟩ (.int .i64 qs)).setCell ⟨w2.heap.size,1,none⟩ (.slice qa ql qc)).setCell ⟨w2.heap.size,2,none⟩ (.bool qd)):=Fr.qt0 (S:=fun b=>b=w2.heap.size) (b:=w2.heap.size) (Fr.refl _ _) rfl _ _ _;have hS8:=H7.out.1.frL FN HZ7.out dC;have hb8:=H7.out.2.2.frL FN HZ7.out dC;have FF8:FrB B w (((w7.setCell ⟨w2.heap.size,0,none⟩ (.int .i64 qs)).setCell ⟨w2.heap.size,1,none⟩ (.slice qa ql qc)).setCell ⟨w2.heap.size,2,none⟩ (.bool qd)):=by
   have hlw:w.heap.size<=w2.heap.size:=oM
   exact ((H7.out.2.1.setCell (a:=⟨w2.heap.size,0,none⟩) (fun h=>absurd h sO) _).setCell (a:=⟨w2.heap.size,1,none⟩) (fun h=>absurd h sO) _).setCell (a:=⟨w2.heap.size,2,none⟩) (fun h=>absurd h sO) _
  have H8:=hi2 hS8 (aI FF8 hb8);clear FN hS8 FF8 hb8;by_cases hst:qs=st
  ·subst hst;go_wp2_with fail
   refine (fi0 H8.out.2.2.slb oM).mono ?_;rintro e w9 ⟨a',c',rfl,hb9,F9⟩;have H9:=hi2 hb9 F9;clear hb9 F9;go_wp2
   go_ret2;refine⟨?_,H8.out.1.fr0 H9.out.2,H8.out.2.1.trans (FrB.none H9.out.2)⟩;rw[if_pos rfl];exact⟨a',c',by rw[HL.out];rfl,by rw[HL.out];exact H9.out.1⟩
  ·have hne:(qs != st)=true:=by simpa using hst
   go_wp2
   go_ret2;refine⟨?_,H8.out.1,H8.out.2.1⟩;rw[if_neg hst];rfl
end SF
end
section
open Go.RowKit Go.Sg Go.Sg.Bits Go.Sg.Clk CP SF
namespace SF
theorem Inp.fr0 {w w':World}{B:Blk}{la:Option Addr}{ll lc:Nat}{bs:List Int}(h:Inp w B la ll lc bs)(F:Fq w w')(hB:B.base<=w.heap.size):Inp w' B la ll lc bs:=by
 refine⟨⟨h.1.by_.fr F (fun _ _ _ _ h=>h),h.1.at_⟩,fun b off e=>?_⟩;rcases h.2 b off e with h0|h1|h1
 ·exact .inl h0
 ·exact .inr (.inl h1)
 ·refine .inr (.inr ?_);cases hb:w.heap[b]? with
  | none=>rw[kd,hb] at h1;cases h1
  | some o=>rw[kd,F.heap hb id];rw[kd,hb] at h1;exact h1
end SF
