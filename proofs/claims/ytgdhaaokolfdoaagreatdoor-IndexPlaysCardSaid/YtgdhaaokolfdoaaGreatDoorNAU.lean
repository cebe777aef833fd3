/- A pack of texts. Conditions: those that each names. -/
import Derived.Test.YtgdhaaokolfdoaaGreatDoorNAT
set_option maxHeartbeats 16000000
set_option maxRecDepth 100000
set_option linter.all false
namespace Go.Proofs.YtgdhaaokolfdoaaGreatDoor
open Go.RowKit Go.Sg Go.Sg.Bits Go.Sg.Clk CP SF
variable {W W6 w:World}{B:Blk}{y y0:Cs}{P:aC0}{a:Bool}{M N b b1 base bd k len0 m per tc:Nat}{X:Nat->Prop}{rp:Int}{rest:List Nat}{K:Prop}{ta:Option Addr}
theorem bT0 (h:aw0 w B y P a N):y.gen<9223372036854775808:=by
 obtain⟨x,c,hS,rfl,hi⟩:=h.ex;exact lt0 hS
def uq0 (all:List Rf)(per k:Nat):Nat->Option (List Int):=fun j=>if j<k then some (ae0 (chunk all per j)) else none
structure qp0 (w W:World)(B:Blk)(X:Nat->Prop)(y0:Cs)(P:aC0)(a:Bool)(N:Nat)(rp:Int)(len0 per:Nat)(rest:List Nat)(M:Nat)(K:Prop)(c0:Cont)(all:List Rf)(b1 b:Nat)(ta:Option Addr)(tc:Nat)(tk:List Rf)(y:Cs)(k:Nat):Prop where
 st:aw0 W B y P a (N+k)
 au0:kT0 y rp tk rest M K c0 (uq0 all per k)
 len:tk.length=max len0 k
 own:dC0 W b1 (.slice ta tk.length tc) tk
 blk:∀ g,ta=some ⟨g,0,none⟩->g≠b/\(w.heap.size<=g\/X g)
 like:Like y0 y/\y.gen=y0.gen/\y.dead=y0.dead
 fr:FrX B X w W
variable {c0:Cont}{all tk:List Rf}{r:Rf}
theorem qp0.put {g:Nat}(h:qp0 w W B X y0 P a N rp len0 per rest M K c0 all b1 b (some ⟨g,0,none⟩) tc tk y k)(hpg:y0.pages<=2147483647)(hb1:0<b1)
  (hr:tk[k]?=some r) (hm:dE0 y r.1.toNat m) (F:FrB B W W6) (hS:aw0 W6 B (y.put r.1.toNat m (ae0 (chunk all per k))) P a (N+k+1)) :
  qp0 w ((W6.setCell ⟨g,k*2,none⟩ (.int .i64 m)).setCell ⟨g,k*2+1,none⟩ (.int .i64 y.gen)) B X y0 P a N rp len0 per rest M K c0 all b1 b (some ⟨g,0,none⟩) tc (tk.set k ((m:Int),(y.gen:Int))) (y.put r.1.toNat m (ae0 (chunk all per k))) (k+1):=by
 have hk:=(gI.1 hr).1;have hown6:dC0 W6 b1 (.slice (some ⟨g,0,none⟩) tk.length tc) tk:=oRf h.own F (fun g' c' hg' hs=>absurd (hs.2.1 c' 35 _ hg') dC);obtain⟨hg1,cg,hgc⟩:=oBT hown6 (g:=g) rfl;have hgen:y.gen<9223372036854775808:=bT0 h.st;obtain⟨l1,l2,l3⟩:=dJ0 y r.1.toNat m (ae0 (chunk all per k));have hset:=mB0 hown6 hk (m:Int) (y.gen:Int);refine⟨sX0 hS hgc oM _ _,?_,?_,by unfold dC0;rw[lx9] at hset;rw[lx9];exact hset,h.blk,⟨h.like.1.trans l1,l2.trans h.like.2.1,l3.trans h.like.2.2⟩,kf0 (h.fr.trans (FrX.of F)) (h.blk g rfl).2 _ _⟩
 ·have ht:=oo0 h.au0 h.st.apart hr hm (by rw[h.like.1.pages];exact hpg) hgen (ae0 (chunk all per k));have e:(fun j=>if j=k then some (ae0 (chunk all per k)) else uq0 all per k j)=uq0 all per (k+1):=by
   funext j
   simp only[uq0];by_cases e:j=k
   ·subst e;rw[if_pos rfl,if_pos oM]
   ·rw[if_neg e];by_cases hj:j<k
    ·rw[if_pos hj,if_pos oM]
    ·rw[if_neg hj,if_neg oM]
  rw[e] at ht;exact ht
 ·rw[lx9,h.len];have:=h.len;omega
theorem qp0.new {W7:World}{ta':Option Addr}{tc':Nat}(h:qp0 w W B X y0 P a N rp len0 per rest M K c0 all b1 b ta tc tk y k)(hpg:y0.pages<=2147483647)(hk:len0<=k)
  (hm:br0 y.taken y.pages y.hand m) (F:FrX B X w W7) (hS:aw0 W7 B (y.new m (ae0 (chunk all per k))) P a (N+k+1)) (hown:W7.ownsRow b1 35 2 (.slice ta' (tk.length+1) tc') (tk.length+1) (tk.flatMap dB0++[.int .i64 m,.int .i64 y.gen])) (hblk:∀ g,ta'=some ⟨g,0,none⟩->g≠b/\(w.heap.size<=g\/X g)) :
  qp0 w W7 B X y0 P a N rp len0 per rest M K c0 all b1 b ta' tc' (tk++[((m:Int),(y.gen:Int))]) (y.new m (ae0 (chunk all per k))) (k+1):=by
 have hgen:y.gen<9223372036854775808:=bT0 h.st;have hlen:tk.length=k:=by rw[h.len];omega
 refine⟨hS,?_,by rw[lA,h.len];simp;omega,?_,hblk,⟨h.like.1.trans ⟨rfl,rfl,rfl,rfl,rfl,rfl,rfl⟩,h.like.2⟩,F⟩
 ·have ht:=uj0 h.au0 h.st.apart hm (by rw[h.like.1.pages];exact hpg) hgen (ae0 (chunk all per k));have e:(fun j=>if j=tk.length then some (ae0 (chunk all per k)) else if j<tk.length then uq0 all per k j else none)=uq0 all per (k+1):=by
   funext j
   simp only[uq0,hlen];by_cases e:j=k
   ·subst e;rw[if_pos rfl,if_pos oM]
   ·rw[if_neg e];by_cases hj:j<k
    ·rw[if_pos hj,if_pos hj,if_pos oM]
    ·rw[if_neg hj,if_neg oM]
  rw[e] at ht;exact ht
 ·have e1:(tk++[((m:Int),(y.gen:Int))]).length=tk.length+1:=by simp
  have e2:(tk++[((m:Int),(y.gen:Int))]).flatMap dB0=tk.flatMap dB0++[.int .i64 m,.int .i64 y.gen]:=by rw[li9];rfl
  show W7.ownsRow b1 35 2 _ (tk++[((m:Int),(y.gen:Int))]).length ((tk++[((m:Int),(y.gen:Int))]).flatMap dB0);rw[e1,e2];exact hown
variable {x:aL0}
theorem wA0 {yk:Cs}(hI:qp0 w W B X y P a N x.rp len0 x.per rest M K c0 all b1 b ta tc tk yk x.leaves)(hz:kU0 y x)(hlen:len0<=x.leaves)(hal:all.length=x.slots)(har:∀ r ∈ all,aF0 r)
  (hm:dE0 yk x.rp.toNat m) (hS:aw0 W6 B (yk.put x.rp.toNat m (ae0 tk)) P a (N+x.leaves+1)) :
  ∃ (y':Cs),aw0 W6 B y' P a (N+x.leaves+1)/\fC0 y' { x with rp:=m,rs:=y.gen } tk all/\Live y' (pgs m tk++rest) M/\(K->bi0 y' (pgs m tk++rest))/\(∀ k ∈ rest,y'.cont k=c0 k)/\(Like y y'/\y'.gen=y.gen/\y'.dead=y.dead):=by
 obtain⟨ht,hc⟩:=oi0 hI.au0 hI.st.apart hm (ae0 tk);obtain⟨l1,l2,l3⟩:=dJ0 yk x.rp.toNat m (ae0 tk);have hL:=hI.like.1.trans l1;have htl:tk.length=x.leaves:=by rw[hI.len];omega
 refine⟨_,hS,⟨⟨hz.most,⟨hz.per.1,by rw[hL.room];exact hz.per.2⟩,fun d hd=>by rw[hL.room];exact hz.fits d hd,by rw[hL.room];exact hz.room⟩,hal,htl,⟨har,ht.right,fun i r hi=>?_⟩,⟨by simp,by simp⟩,?_⟩,ht.live,ht.calm,ht.keep,hL,l2.trans hI.like.2.1,l3.trans hI.like.2.2⟩
 ·refine ht.cont i r _ hi ?_;have:=(gI.1 hi).1;simp only[uq0];rw[if_pos oM]
 ·rw[<- hI.like.2.1];simpa using hc
theorem rf0 (F:FrX B (fun b=>X b\/b=bd) w W)(u v:Value):FrX B (fun b=>X b\/b=bd) w ((W.setCell ⟨bd,4,none⟩ u).setCell ⟨bd,5,none⟩ v):=
 Fr.setCell (Fr.setCell F (fun _=>.inr (.inr rfl)) _) (fun _=>.inr (.inr rfl)) _
theorem qg0 {s:Nat}(h:aw0 w B y P a N)(hD:aj0 w bd s x):0<bd:=by
 rcases Nat.eq_zero_or_pos bd with h0|h0
 ·exfalso;subst h0;have h2:=h.tab 0 dC;have h3:=coh hD 0;simp at h3;rw[h3] at h2;cases h2
 ·exact h0
theorem oC0 {w':World}(h:aP0 w B y P N){e size n:Nat}{v:Value}{xs:List Value}(hown:w.ownsRow base e size v n xs)(he:e ∉ 5 :: em0)(hg:w.grownBy w' v.ownBlock):aP0 w' B y P N:=by
 cases hv:v.ownBlock with
 | none =>
  rw[hv] at hg;exact h.fr0 ⟨hg.os,hg.tape,hg.output,hg.size,fun b hb _=>hg.block b hb sP⟩
 | some g =>
  obtain⟨hb,c,hc⟩:=oBT hown hv.symm;rw[hv] at hg;exact h.frL (k:=g) ⟨hg.os,hg.tape,hg.output,hg.size,fun b hb hn=>hg.block b hb (fun e=>hn (by cases e;rfl))⟩ hc he
theorem nF0 {W1:World}{Y:Nat->Prop}(F1:Fq w W1)(F:FrX B X W1 W):FrX B (fun b=>X b\/Y b) w W:=
 ((FrX.none F1).trans F).mono fun _ _ h=>h.imp id .inl
theorem wT0 (l:List Rf):∀ (i:Nat) (x:Rf),l[i]?=some x->(l.flatMap dB0)[i*2]?=some (.int .i64 x.1)/\(l.flatMap dB0)[i*2+1]?=some (.int .i64 x.2):=by
 induction l with
 | nil=>intro i x hx;simp at hx
 | cons y l ih =>
  intro i x hx;cases i with
  | zero=>simp at hx;subst hx;exact⟨rfl,rfl⟩
  | succ i =>
   rw[gS] at hx;have e:(i+1)*2=i*2+2:=oM
   rw[e];exact ih i x hx
theorem ip0 {c:Nat}{a:Option Addr}{l:List Rf}(h:dC0 w base (.slice a l.length c) l)(hr:l[k]?=some r):∃ g,a=some ⟨g,0,none⟩/\g<w.heap.size/\w.cell? ⟨g,k*2,none⟩=some (.int .i64 r.1)/\w.cell? ⟨g,k*2+1,none⟩=some (.int .i64 r.2):=by
 obtain⟨f0,f1⟩:=wT0 l k r hr;obtain⟨g,e,hg,h1⟩:=al0 h f0;obtain⟨g',e',_,h2⟩:=al0 h f1;rw[e] at e';cases e';exact⟨g,e,hg,h1,h2⟩
def Bt0 (B:Blk)(X:Nat->Prop)(bd:Nat)(x:aL0)(y:Cs)(P:aC0)(a:Bool)(N:Nat)(rest:List Nat)(M:Nat)(K:Prop)(c0:Cont)(all:List Rf)(w:World)(e:Ending)(w':World):Prop:=
 ∃ err,e = .returned (.int .i64 err)/\FrX B (fun b=>X b\/b=bd) w w'/\((err=0/\∃ (y':Cs) (tk:List Rf) (m:Nat),aj0 w' bd B.s { x with rp:=m,rs:=y.gen }/\aw0 w' B y' P a N/\fC0 y' { x with rp:=m,rs:=y.gen } tk all/\Live y' (pgs m tk++rest) M /\
  (K->bi0 y' (pgs m tk++rest))/\(∀ k ∈ rest,y'.cont k=c0 k)/\(Like y y'/\y'.gen=y.gen/\y'.dead=y.dead))\/(err=4/\a=true/\aP0 w' B y P N))
theorem fZ0 (h:0<x.per)(k:Nat):k<x.leaves↔k*x.per<x.slots:=by
 unfold aL0.leaves;constructor
 ·intro hk;have h2:(k+1)*x.per<=x.slots+x.per-1:=(mQ9 h).1 hk;rw[lZ9] at h2;omega
 ·intro hk;refine (mQ9 h).2 ?_;rw[lZ9];omega
theorem yD0 {P:aQ0}{off cc:Nat}{au0:List Rf}(h:aw0 w B y P a N)(hD:aj0 w bd B.s x)(hz:kU0 y x)(hrs:0<=x.rs)(hpg:y.pages<=2147483647)(hT:kT0 y x.rp au0 rest M K c0 (fun _=>none))
  (hlen:au0.length<=x.leaves) (hal:all.length=x.slots) (har:∀ r ∈ all,aF0 r) (hM:1+x.leaves+rest.length+2*M<y.pages) (hown:dC0 w b1 (.slice ta au0.length tc) au0) (hb1:0<b1) (hbs:b1<=w.heap.size) (hall:iG0 w (some ⟨b,off,none⟩) all) (hne:∀ g,ta=some ⟨g,0,none⟩->g≠b) (hcc:all.length<=cc) (hN:N+x.leaves+1<=90000) :
  Calls Tryz.prog 122 #[cR0 bd,.slice ta au0.length tc,.slice (some ⟨b,off,none⟩) all.length cc] w (Bt0 B (fun b=>ta=some ⟨b,0,none⟩) bd x y P a (N+x.leaves+1) rest M K c0 all w):=by
 obtain⟨i0,hi0,hz0,hz1,hz2⟩:=info_parts Tryz.js0;have hp41:=hz.qu0;have hp0:=hz.per.1;have hsl:all.length<=1681:=by
  rw[hal];have h1:=hz.fx0;have h2:x.leaves*x.per<=41*41:=Nat.mul_le_mul hp41.1 hp41.2;omega
 have h0:0<w.heap.size:=by have:=h.base;have:=h.bs0;omega
 have HCh:=hid (qT0 (w:=w) (b:=b) (off:=off) (n:=all.length) (c:=cc) (per:=x.per) (m:=x.leaves) ⟨hp0,oM⟩ oM hcc (fun k=>by rw[hal];exact fZ0 hp0 k) oM);have HD:=hid hD;have HZ:=hi2 hz (aI hal (aI har hrs));have HA:=hid hall;have H0:=hi2 h (aI hT hown);obtain⟨m,hm⟩:=eX x.leaves
 have HM:=hid hm;rw[hm] at HCh hN hM hlen ⊢;have hm41:m<=41:=oM
 obtain⟨c0',c1,c2,c3,c4,c5,cz,cl⟩:=aU0 hD;have hblen:b<w.heap.size\/all=[]:=by
  cases all with
  | nil=>exact .inr rfl
  | cons z l=>obtain⟨b',o',e,hb,_⟩:=hall.row.at_ 0 z rfl;cases e;exact .inl hb
 clear h hz hT hown hall hal har hD hm;go_enter Tryz.func122,Tryz.ntmps122;go_wp2_with (go_at_call 184;refine HCh.out.mono ?_)
 rintro e W1 ⟨v1,rfl,hch,F1⟩;have HF1:=hid F1;obtain⟨va,vc,rfl,-⟩:=oSl hch;have HCH:=hid hch;have hI0:qp0 W1 W1 B (fun b=>ta=some ⟨b,0,none⟩) y P a N x.rp au0.length x.per rest M K c0 all b1 b ta tc au0 y 0:=
  ⟨H0.out.1.fr0 F1,by have:=H0.out.2.1;exact⟨this.live,this.right,this.rr,fun j r bs hj hC=>by simp[uq0] at hC,this.calm,this.keep⟩,by simp,oRf H0.out.2.2 F1 (fun _ _ _ h=>h),fun g hg=>⟨hne g hg,.inr hg⟩,⟨Like.refl y,rfl,rfl⟩,FrX.refl _ _ _⟩
 have HI0:=hid hI0;have HD1:=hid (show aj0 W1 bd B.s x from F1.heap HD.out id);have HA1:=hid (HA.out.fr0 F1);clear hch F1 hI0 c0' c1 c2 c3 c4 c5 cz cl HCh;go_wp2_with fail
 go_loopw [1,19] (fun tv i wr=>∃ (k:Nat) (ta':Option Addr) (tc':Nat) (tk:List Rf) (yk:Cs),k<=m/\i = .int .i64 k/\tv = .slice ta' tk.length tc'/\qp0 W1 wr B (fun b=>ta=some ⟨b,0,none⟩) y P a N x.rp au0.length x.per rest M K c0 all b1 b ta' tc' tk yk k) (fun _ i _=>m-(intOf i).toNat)
 case atStart=>exact⟨0,ta,tc,au0,y,la9 _,rfl,rfl,HI0.out⟩
 case round =>
  obtain⟨k,ta',tc',tk,yk,hk,rfl,rfl,hI⟩:=hrel;have hF:=hI.fr;have HI:=hid hI;have hX35:∀ g,ta=some ⟨g,0,none⟩->∃ c,W1.heap[g]?=some (.cells c 35):=fun g e=>(oBT HI0.out.own (g:=g) (by rw[e];rfl)).2
  have hXd:¬ ta=some ⟨bd,0,none⟩:=fun e=>by
   obtain⟨c,hc⟩:=hX35 bd e;have:=HD1.out;unfold aj0 at this;rw[hc] at this;cases this
  have hDr:=HD1.out.frX hI.fr hXd;obtain⟨c0',c1,c2,c3,c4,c5,cz,cl⟩:=aU0 hDr;by_cases hlt:k<m
  ·have hd:decide ((k:Int)<(m:Int))=true:=by simp;omega
   have hrow:=oRf HCH.out hF (fun g c hg hs=>by
    rcases hs with hs|hs
    ·exact absurd (hs.2.1 c 33 _ hg) dC
    ·obtain⟨c',hc'⟩:=hX35 g hs;rw[hc'] at hg;cases hg)
   obtain⟨gv,rfl,hgv,hcv⟩:=al0 hrow (show ((List.range m).map (chV b off all.length x.per))[k]?=some (chV b off all.length x.per k) by simp[hlt]);have hcl:(chunk all x.per k).length<=41:=by rw[bk0];omega
   obtain⟨e,he⟩:=eX ((chunk all x.per k).length)
   have hcvv:chV b off all.length x.per k = .slice (some ⟨b,off+k*x.per*2,none⟩) e e:=by
    rw[<- he,bk0];rfl
   rw[hcvv] at hcv;have hXb:∀ b' off',(some ⟨b,off,none⟩:Option Addr)=some ⟨b',off',none⟩->all≠[]->¬ ta=some ⟨b',0,none⟩:=fun b' off' e _ e'=>by
    cases e;exact hne b e' rfl
   have hTk:=pL0 (HA1.out.frX hI.fr hXb) x.per k;have HLd:=hid (fun W (F:Fq wr W)=>iy0 (c:=e) ((hTk.fr0 F).row) (ew0 HZ.out.2.2.1 x.per k) he oM);have HE:=hid he;have hpgk:yk.pages=y.pages:=hI.like.1.pages;have hrm:yk.room=y.room:=hI.like.1.room;have hlen':tk.length<=m:=by rw[hI.len];omega
   have hfree:=hI.au0.live.free (by simp only[pgs,lA,lC,ln9];omega);have h12e:12*e<=y.room:=by
    have h1:=HZ.out.1.per.2;have h2:e<=x.per:=(by rw[<- he,bk0];omega);omega
   have hki:(k:Int)<(m:Int):=oM
   have HDr:=hid hDr;by_cases hk0:k<tk.length
   ·obtain⟨r,hr⟩:∃ r,tk[k]?=some r:=⟨_,gE hk0⟩
    have hd0:decide ((k:Int)<(tk.length:Int))=true:=sO;obtain⟨hp1,hp2,hp3,hp4⟩:=hI.au0.page hr;obtain⟨r1,r2⟩:=r;obtain⟨pn,rfl⟩:=iZ (hI.au0.right _ (gM hr)).1;simp only[lG9] at hp2 hp3 hp4;obtain⟨g,rfl,hg,g0,g1⟩:=ip0 hI.own hr;simp only at g0 g1;have hgb:∃ cg,wr.heap[g]?=some (.cells cg 35):=(oBT hI.own (g:=g) rfl).2
    have hgbd:¬ bd=g:=fun e=>by
     obtain⟨cg,hcg⟩:=hgb;unfold aj0 at hDr;rw[e,hcg] at hDr;cases hDr
    have HG:=hid (fun W (F:FrB B wr W)=>show W.cell? ⟨g,k*2,none⟩=wr.cell? ⟨g,k*2,none⟩/\W.cell? ⟨g,k*2+1,none⟩=wr.cell? ⟨g,k*2+1,none⟩/\(∃ cg,W.heap[g]?=some (.cells cg 35)) by
     obtain⟨cg,hcg⟩:=hgb;have hn:¬ (B.base<=g/\vg0 B wr g):=fun hs=>absurd (hs.2.1 cg 35 _ hcg) dC
     exact⟨Fr.cell F (p:=⟨g,_,none⟩) hg hn,Fr.cell F (p:=⟨g,_,none⟩) hg hn,⟨cg,FrB.heap F hcg dC⟩⟩)
    have HW:=hid (fun W la lc (F:Fq wr W) (hb:ByV W la (12*(chunk all x.per k).length) lc (ae0 (chunk all x.per k)))=>iO0 (hI.st.fr0 F) pn r2 (hb.inp B) (bh0 _) (by rw[hrm,he];exact h12e) hp2 hp3 hp4 hfree oM);have HR:=hid hr;have HG0:=hi2 g0 g1;have hki0:(k:Int)<(tk.length:Int):=oM;clear hI hF hX35 hDr hrow hTk he hr hcvv hp1 hpgk hrm hp2 hp3 hp4 hfree hcl;go_wp2_with fail
    have hgbd':¬ g=bd:=fun e=>hgbd e.symm
    go_region_law (first
     | ((try go_simp);go_at_call 119;refine (HLd.out _ (by first|exact Fr.refl _ _|exact (Fr.refl _ _).drew)).mono ?_;rintro _ W5 ⟨la,lc,rfl,hb,F5⟩;have F5w:Fq wr W5:=(by first|exact F5|exact ((Fr.refl _ _).drew).trans F5 nI);have g0:=(HG.out W5 (FrB.none F5w)).1.trans HG0.out.1;have g1:=(HG.out W5 (FrB.none F5w)).2.1.trans HG0.out.2;obtain⟨c0',c1,c2,c3,c4,c5,cz,cl⟩:=aU0 (HDr.out.frB (FrB.none (B:=B) F5w)))
     | ((try go_simp);go_at_call 26;refine (HW.out _ _ _ F5w hb).mono ?_;rintro _ W6 ⟨p6,s6,err,rfl,F6,hr6⟩;have F6w:FrB B wr W6:=FrB.trans (FrB.none F5w) F6;have g0:=(HG.out W6 F6w).1.trans HG0.out.1;have g1:=(HG.out W6 F6w).2.1.trans HG0.out.2;obtain⟨cg,hcg⟩:=(HG.out W6 F6w).2.2;have gz:=fun o=>foh hcg o;have gl:=loh hcg))
    all_goals (
     rcases hr6 with⟨rfl,m',rfl,rfl,hm',hS6⟩|⟨rfl,ha,hDn⟩
     ·have hL:=qp0.put HI.out hpg hb1 HR.out hm' F6w hS6;have HL:=hid hL;clear hm' hS6 hL g0 g1 gz gl hcg F6w F6 F5w F5 hb c0' c1 c2 c3 c4 c5 cz cl;go_wp2_with fail
      go_roundw;case rel=>exact⟨k+1,_,_,_,_,hlt,by go_num,by rw[lx9],HL.out⟩
      case measure=>simp[intOf];omega
     ·have hF6:=FrX.trans HI.out.fr (FrX.of F6w);have HY:=hi2 ha (aI hDn (aI hF6 hcg));clear ha hDn hF6 hcg F6w F6 F5w F5 hb c0' c1 c2 c3 c4 c5 cz cl;go_wp2_with fail
      go_ret;refine⟨4,rfl,nF0 HF1.out (kf0 HY.out.2.2.1 (HI.out.blk g rfl).2 _ _),.inr ⟨rfl,HY.out.1,(sY0 (aX0 HY.out.2.1 HI.out.like.1) HY.out.2.2.2 _ _).mono oM⟩⟩)
   ·have hd0:decide ((k:Int)<(tk.length:Int))=false:=sO;have hdl:au0.length<=k:=(by have:=hI.len;omega);obtain⟨wr1,hwr1⟩:=eX (wr.alloc (.cells #[.int .i64 0,.int .i64 0] 35))
    have hFa:Fq wr wr1:=(by rw[<- hwr1];exact (Fr.refl _ _).alloc _);have hba:wr1.heap[wr.heap.size]?=some (.cells #[.int .i64 0,.int .i64 0] 35):=(by rw[<- hwr1];exact han _ _);have HW:=hid (fun W la lc (F:Fq wr W) (hb:ByV W la (12*(chunk all x.per k).length) lc (ae0 (chunk all x.per k)))=>pX0 (hI.st.fr0 F) (hb.inp B) (bh0 _) (by rw[hrm,he];exact h12e) hfree oM);have HFA:=hid hFa;have HBA:=hid hba;have HWR:=hid hwr1;have hDr1:aj0 wr1 bd B.s x:=hFa.heap hDr id;have HDr1:=hid hDr1;have hbb:¬ bd=wr.heap.size:=oM;have hbb':¬ wr.heap.size=bd:=oM;have hszl:=loh hba;clear hI hF hX35 hDr hrow hTk he hcvv hpgk hrm hfree hcl hFa hba hwr1 c0' c1 c2 c3 c4 c5 cz cl;obtain⟨c0',c1,c2,c3,c4,c5,cz,cl⟩:=aU0 hDr1;clear hDr1;go_upto_region 8 with fail
    rw[HWR.out];go_region_held3 (fun W=>W.cell? ⟨bd,0,none⟩=some (.pointer (some ⟨B.s,0,none⟩))) (go_keep) (first
     | (go_at_call 119;refine (HLd.out _ (by first|exact HFA.out|exact HFA.out.drew)).mono ?_;rintro _ W5 ⟨la,lc,rfl,hb,F5⟩;have F5w:Fq wr1 W5:=(by first|exact F5|exact ((Fr.refl _ _).drew).trans F5 nI);obtain⟨c0',c1,c2,c3,c4,c5,cz,cl⟩:=aU0 (HDr1.out.frB (FrB.none (B:=B) F5w)))
     | (go_at_call 22;refine (HW.out _ _ _ (HFA.out.trans F5w nI) hb).mono ?_;rintro _ W6 ⟨p6,s6,err,rfl,F6,hr6⟩;have F6w:FrB B wr1 W6:=FrB.trans (FrB.none F5w) F6;have hbx:=FrB.heap F6w HBA.out dC;obtain⟨g0,g1,gz,gl⟩:=cells2 hbx;obtain⟨c0',c1,c2,c3,c4,c5,cz,cl⟩:=aU0 (HDr1.out.frB F6w)))
    obtain⟨W7,hW7⟩:=eX ((W6.setCell ⟨wr.heap.size,0,none⟩ (.int .i64 p6)).setCell ⟨wr.heap.size,1,none⟩ (.int .i64 s6))
    rw[hW7];have hf7:Fr (fun b=>b=wr.heap.size) W6 W7:=(by rw[<- hW7];exact ia0 _ _);have b7:W7.heap[wr.heap.size]?=some (.cells #[.int .i64 p6,.int .i64 s6] 35):=by
     rw[<- hW7,hsc _ _ _ _ (hsc _ _ _ _ hbx)];rfl
    have hF67:FrX B (fun b=>ta=some ⟨b,0,none⟩) W1 W7:=by
     rw[<- hW7];exact kf0 (FrX.trans HI.out.fr (FrX.trans (FrX.none HFA.out) (FrX.of F6w))) (.inl HI.out.fr.size) _ _
    have hoblt:∀ g,some g=(Value.slice ta' tk.length tc').ownBlock->g<wr.heap.size:=fun g e=>by
     obtain⟨_,c,hc⟩:=oBT HI.out.own e;exact loh hc
    have hown7:dC0 W7 b1 (.slice ta' tk.length tc') tk:=by
     have h1:dC0 wr1 b1 (.slice ta' tk.length tc') tk:=oRf HI.out.own HFA.out (fun _ _ _ h=>h);have h2:dC0 W6 b1 (.slice ta' tk.length tc') tk:=oRf h1 F6w (fun g' c' hg' hs=>absurd (hs.2.1 c' 35 _ hg') dC);obtain⟨hl,h0'|⟨g',cap,cur,hv,hb',hg',r⟩⟩:=h2
     ·exact⟨hl,.inl h0'⟩
     ·exact⟨hl,.inr ⟨g',cap,cur,hv,hb',hf7.heap hg' (by have:=hoblt g' (by rw[hv];rfl);omega),r⟩⟩
    have hb1':b1<=W7.heap.size:=nT hbs (nT HF1.out.size hF67.size);obtain⟨d0,d1,dz,dl⟩:=cells2 b7;have HO7:=hi2 hown7 (aI hF67 (aI hf7 hbx));have HS6:=hid hr6;have hszz:wr.heap.size<W7.heap.size:=dl;clear hW7 b7 hF67 hown7 hf7 hbx hr6 g0 g1 gz gl c0' c1 c2 c3 c4 c5 cz cl F6w F6 F5w F5 hb;go_wp2_with (at_builtin;refine wpList_append_own_at _ rfl (.tmp 55) (.tmp 57) 33 rfl b1 35 i0 _ 2 16 Tryz.underlying33 hi0 hz0 hz1 hz2 rfl dC _ _ _ rfl (HO7.out.1.alloc _) ⟨W7.heap.size,0,none⟩ 1 1 [.int .i64 p6,.int .i64 s6] rfl rfl (World.news_of_block (cs:=#[.int .i64 p6,.int .i64 s6]) (t:=35) (fr:=(0,0)) (han _ _)) (by simp[Value.oneCell']) (by simp only[maxLen];omega) oM sO ?_)
    intro v8 W8 hown8 hg8 hnil8 hat8;have hF8:FrX B (fun b=>ta=some ⟨b,0,none⟩) W1 W8:=by
     refine Fr.trans (S':=fun b=>some b=(Value.slice ta' tk.length tc').ownBlock) ((HO7.out.2.1).alloc (.cells #[.int .i64 p6,.int .i64 s6] 35)) ⟨hg8.os,hg8.tape,hg8.output,hg8.size,fun b hb hn=>hg8.block b hb hn⟩ (fun b hb e=>?_);obtain⟨g',-,hg'⟩:∃ g':Nat,g'=b/\ta'=some ⟨b,0,none⟩:=⟨b,rfl,by
      obtain⟨_,⟨h0,_⟩|⟨g'',cap,cur,hv,_⟩⟩:=HI.out.own
      ·rw[h0] at e;simp[Value.ownBlock] at e
      ·rw[hv] at e;simp[Value.ownBlock] at e;subst e;cases hv;rfl⟩
     rcases (HI.out.blk b hg').2 with h|h
     ·omega
     ·exact .inr h
    obtain⟨ta8,tc8,rfl,-⟩:=oSl hown8;have hblk8:∀ g,ta8=some ⟨g,0,none⟩->g≠b/\(W1.heap.size<=g\/ta=some ⟨g,0,none⟩):=fun g e=>by
     rcases hat8 with h|h
     ·rw[e] at h;have hta:ta'=some ⟨g,0,none⟩:=by
       obtain⟨_,⟨h0,_⟩|⟨g'',cap,cur,hv,_⟩⟩:=HI.out.own
       ·rw[h0] at h;simp[Value.ownBlock] at h
       ·rw[hv] at h;simp[Value.ownBlock] at h;subst h;cases hv;rfl
      exact HI.out.blk g hta
     ·rw[e] at h;simp[Value.ownBlock] at h;have h1:=HI.out.fr.size;refine⟨fun e'=>?_,.inl oM⟩;rcases hblen with hb'|hb'
      ·have:=HF1.out.size;omega
      ·have h3:=HZ.out.2.1;have h2:0<x.slots:=lW9 dC;have h4:all.length=0:=(by rw[hb'];rfl);omega
    have H8:=hi2 hown8 (aI hF8 hblk8);have hgr:=hid hg8;clear hown8 hF8 hblk8 hg8 hnil8 hat8 d0 d1 dz dl;rcases HS6.out with⟨rfl,m',rfl,rfl,hm',hS6⟩|⟨rfl,ha,hDn⟩
    ·have hS7:aw0 W7 B (yk.new m' (ae0 (chunk all x.per k))) P a (N+k+1):=hS6.frL HO7.out.2.2.1 HO7.out.2.2.2 dC oM;have hS8:=(hS7.fr0 ((Fr.refl (fun _=>False) W7).alloc (.cells #[.int .i64 m',.int .i64 yk.gen] 35))).ru0 (HO7.out.1.alloc _) dC hb1 hgr.out;have HL:=hid (qp0.new HI.out hpg hdl hm' H8.out.2.1 hS8 H8.out.1 H8.out.2.2);clear hm' hS6 hS7 hS8;go_wp2_with fail
     go_roundw;case rel=>exact⟨k+1,_,_,_,_,hlt,by go_num,by rw[lA];rfl,HL.out⟩
     case measure=>simp[intOf];omega
    ·have hD7:aP0 W7 B yk P (N+k+1):=hDn.frL HO7.out.2.2.1 HO7.out.2.2.2 dC;have hD8:=oC0 (hD7.fr0 ((Fr.refl (fun _=>False) W7).alloc (.cells #[.int .i64 p6,.int .i64 s6] 35))) (HO7.out.1.alloc _) dC hgr.out;have HY:=hi2 ha hD8;clear ha hDn hD7 hD8;go_wp2_with fail
     go_ret;exact⟨4,rfl,nF0 HF1.out H8.out.2.1,.inr ⟨rfl,HY.out.1,(aX0 HY.out.2 HI.out.like.1).mono oM⟩⟩
  ·obtain rfl:k=m:=by omega
   have hd:decide ((k:Int)<(k:Int))=false:=by simp
   obtain⟨hp1,hp2,hp3,hp4⟩:=hI.au0.zn0;have htl:tk.length=k:=by rw[hI.len];omega
   obtain⟨ta2,tc2,hsv,hTT⟩:=by0 hI.own;obtain⟨rfl,rfl⟩:ta'=ta2/\tc'=tc2:=by cases hsv;exact⟨rfl,rfl⟩
   clear hsv;have hfree:=hI.au0.live.free (by have h1:yk.pages=y.pages:=hI.like.1.pages;simp only[pgs,lA,lC,ln9];omega);have h12:12*tk.length<=yk.room:=by
    have h1:yk.room=y.room:=hI.like.1.room;have h2:=HZ.out.1.leaves;rw[h1,htl,<- HM.out];exact h2
   have HLd:=hid (fun W (F:Fq wr W)=>iy0 (c:=tc') ((hTT.fr0 F).row) hI.au0.right rfl oM);have HW:=hid (fun W la lc (F:Fq wr W) (hb:ByV W la (12*tk.length) lc (ae0 tk))=>show Calls Tryz.prog 26 #[B.ptr,fT0 x.rp x.rs,.slice la (12*tk.length) lc] W (ql0 B yk P a (N+k) x.rp.toNat (ae0 tk) W) by
    have:=iO0 (hI.st.fr0 F) x.rp.toNat x.rs (hb.inp B) (bh0 _) h12 hp2 hp3 hp4 hfree oM;rw[<- hp1] at this;exact this)
   have HDr:=hid hDr;clear hI hF hX35 hDr hp1 hp2 hp3 hp4 htl hTT hfree h12;go_wp2_with fail
   go_region_law (first
    | ((try go_simp);go_at_call 119;refine (HLd.out _ (by first|exact Fr.refl _ _|exact (Fr.refl _ _).drew)).mono ?_;rintro _ W5 ⟨la,lc,rfl,hb,F5⟩;have F5w:Fq wr W5:=(by first|exact F5|exact ((Fr.refl _ _).drew).trans F5 nI);obtain⟨c0',c1,c2,c3,c4,c5,cz,cl⟩:=aU0 (HDr.out.frB (FrB.none (B:=B) F5w)))
    | ((try go_simp);go_at_call 26;refine (HW.out _ _ _ F5w hb).mono ?_;rintro _ W6 ⟨p6,s6,err,rfl,F6,hr6⟩;have F6w:FrB B wr W6:=FrB.trans (FrB.none F5w) F6;have hD6:=HDr.out.frB F6w;obtain⟨c0',c1,c2,c3,c4,c5,cz,cl⟩:=aU0 hD6))
   all_goals (
    rcases hr6 with⟨rfl,m',rfl,rfl,hm',hS6⟩|⟨rfl,ha,hDn⟩
    ·have hE:=wA0 (W6:=W6) (x:=x) (len0:=au0.length) (by rw[HM.out];exact HI.out) HZ.out.1 (by rw[HM.out];exact hlen) HZ.out.2.1 HZ.out.2.2.1 hm' (by rw[HM.out];exact hS6);rw[HM.out] at hE;have hd9:aj0 ((W6.setCell ⟨bd,4,none⟩ (.int .i64 m')).setCell ⟨bd,5,none⟩ (.int .i64 yk.gen)) bd B.s { x with rp:=m',rs:=y.gen }:=by
      rw[<- HI.out.like.2.1];exact mf0 hD6 _ _
     have hf9:=rf0 (X:=fun b=>ta=some ⟨b,0,none⟩) (bd:=bd) (nF0 (Y:=fun b=>b=bd) HF1.out (FrX.trans HI.out.fr (FrX.of F6w))) (.int .i64 m') (.int .i64 yk.gen);have H9:=hi2 hE (aI hd9 (aI hf9 hD6));clear hm' hS6 hE hd9 hf9 hD6 F6w F6 F5w F5 hb c0' c1 c2 c3 c4 c5 cz cl;go_wp2_with fail
     go_ret;obtain⟨⟨y',e1,e2⟩,hd9,hf9,hD6⟩:=H9.out;exact⟨0,rfl,hf9,.inl ⟨rfl,y',tk,m',hd9,gH0 e1 hD6 (by have:=H0.out.1.base;have:=HD.out;exact qg0 H0.out.1 HD.out) _ _,e2⟩⟩
    ·have hf9:=rf0 (X:=fun b=>ta=some ⟨b,0,none⟩) (bd:=bd) (nF0 (Y:=fun b=>b=bd) HF1.out (FrX.trans HI.out.fr (FrX.of F6w))) (.int .i64 p6) (.int .i64 s6);have H9:=hi2 ha (aI hDn (aI hf9 hD6));clear ha hDn hf9 hD6 F6w F6 F5w F5 hb c0' c1 c2 c3 c4 c5 cz cl;go_wp2_with fail
     go_ret;exact⟨4,rfl,H9.out.2.2.1,.inr ⟨rfl,H9.out.1,eu0 (aX0 H9.out.2.1 HI.out.like.1) H9.out.2.2.2 _ _⟩⟩)
