/- A pack of texts. Conditions: those that each names. -/
import Derived.Test.YtgdhaaokolfdoaaGreatDoorNAX
import Derived.StillTailTactics
set_option maxHeartbeats 16000000
set_option maxRecDepth 100000
set_option linter.all false
namespace Go.Proofs.YtgdhaaokolfdoaaGreatDoor
section
open Go.RowKit Go.Sg Go.Sg.Bits Go.Sg.Clk Go.Shelf CP SF
def Bk0 (B:Blk)(y:Cs)(P:aC0)(a:Bool)(N:Nat)(l:List Rf)(w:World)(e:Ending)(w':World):Prop:=
 ∃ va vn vc err,e = .returned (.tuple #[.slice va vn vc,.int .i64 err])/\FrB B w w'/\((err=0/\dC0 w' w.heap.size (.slice va vn vc) l/\aw0 w' B y P a (N+1))\/(err=4/\a=true/\aP0 w' B y P (N+1)))
variable {w:World}{B:Blk}{y:Cs}{a:Bool}{N bd c n:Nat}{x:aL0}{slots au0:List Rf}
theorem AR0 {P:aC0}(h:aw0 w B y P a N)(hD:aj0 w bd B.s x)(hC:fC0 y x au0 slots)(hN:N+1<=90000) :
  Calls Tryz.prog 120 #[cR0 bd] w (Bk0 B y P a N au0 w):=by
 have HRD:=hid (fun W (F:Fq w W)=>om0 (h.fr0 F) x.rp x.rs hC.rr.1 hC.rr.2 hC.root hN);have HD:=hid hD;have HC:=hid hC;obtain⟨c0,c1,c2,c3,c4,c5,cz,cl⟩:=aU0 hD;clear h hD hC;go_enter Tryz.func120,Tryz.ntmps120;go_wp2_with fail
 go_region_held3 (fun W=>W.cell? ⟨bd,0,none⟩=some (.pointer (some ⟨B.s,0,none⟩))/\W.cell? ⟨bd,4,none⟩=some (.int .i64 x.rp)/\W.cell? ⟨bd,5,none⟩=some (.int .i64 x.rs)) (go_keep)
  (first
   | (go_at_call 24;refine (HRD.out _ (by first|exact Fr.refl _ _|exact (Fr.refl _ _).drew)).mono ?_;rintro e W2 ⟨la,ll,lc,err,rfl,F2,hr⟩;replace F2:FrB B w W2:=FrB.trans (FrB.none (by first|exact Fr.refl _ _|exact (Fr.refl _ _).drew)) F2;obtain⟨c0,c1,c2,c3,c4,c5,cz,cl⟩:=aU0 (HD.out.frB F2);have H2:=hi2 F2 hr;clear F2 hr))
 rcases H2.out.2 with⟨rfl,rfl,hb,hS⟩|⟨rfl,ha,hDn⟩
 ·have hll:(ae0 au0).length=12*x.leaves:=by rw[cM0,HC.out.tlen]
  rw[hll] at hb;have HPs:=hid (fun W (F:Fq W2 W)=>ko0 (hb.fr F (fun _ _ _ h=>h)).slb HC.out.leaf.tr HC.out.tlen (by have:=HC.out.z.qu0;omega));have HS:=hi2 hS H2.out.1;have HLv:=hid (lj0 (HD.out.frB H2.out.1) (by have:=HC.out.z.most;omega) HC.out.z.per.1 (by have:=HC.out.z.qu0;omega));clear hb hS;rw[hll];go_wp2_with (go_at_call 182;refine HLv.out.mono ?_)
  rintro e W3 ⟨rfl,m,rfl⟩;go_wp2_with (go_at_call 181;refine (HPs.out _ ((Fr.refl _ _).drewN _)).mono ?_)
  rintro e W4 ⟨v,rfl,hown,F4⟩;have H4:=hi2 hown F4;clear hown F4;go_wp2_with fail
  go_ret2;have F24:Fq W2 W4:=((Fr.refl _ _).drewN m).trans H4.out.2 nI;have ho:=du0 H4.out.1 (nT HS.out.2.size sP);obtain⟨va,vc,rfl,-⟩:=oSl ho;exact⟨va,_,vc,0,rfl,FrB.trans HS.out.2 (FrB.none F24),.inl ⟨rfl,ho,HS.out.1.fr0 F24⟩⟩
 ·have HX:=hi2 ha (aI hDn H2.out.1);clear hDn ha;go_wp2_with fail
  go_ret2;exact⟨_,_,_,4,rfl,HX.out.2.2,.inr ⟨rfl,HX.out.1,HX.out.2.1⟩⟩
attribute [local go_sem] Oper.semAt_some
theorem pf0 {W:World}{lp bs bdir:Nat}{o o':Obj}(ho:W.heap[lp]?=some o)(hc:o.isCells=false)(h1:lp≠bs)(h2:lp≠bdir)(h3:lp≠bd):KpG bs bdir bd W (W.putObj lp o'):=by
 refine⟨fun g c f hg=>?_,hpj _ _ _ _ h1,hpj _ _ _ _ h2,fun i=>by rw[mp0 _ _ _ _ _ h3]⟩;rw[hpj _ _ _ _ (by rintro rfl;rw[hg] at ho;cases ho;cases hc)];exact hg
theorem tB0 (B0 per:Nat)(l:List Int)(z:Grp):OwnFrom B0 (fun (_:Unit) W=>zZ0 per l z W):=
 in0 (fun _ W W' h F=>by
   obtain⟨h1,h2,h3,g,off,c,e,hg⟩:=h;exact⟨h1.fr0 F,h2,h3,g,off,c,e,F.heap hg id⟩)
  (fun _ W W' k h F hk hc=>by
   obtain⟨h1,h2,h3,g,off,c,e,hg⟩:=h;have hne:¬ g=k:=fun e=>by rw[e] at hg;exact hc _ _ _ hg
   exact⟨h1.fr F (fun b off' e' _ _=>by rw[e] at e';cases e';exact hne),h2,h3,g,off,c,e,F.heap hg hne⟩)
theorem kr0 {b e m size:Nat}{a:Option Addr}{xs:List Value}(h:w.ownsRow b e size (.slice a n c) m xs):n=m:=by
 obtain⟨_,⟨h0,h1⟩|⟨g,cap,cur,hv,_⟩⟩:=h
 ·cases h0;exact h1.symm
 ·cases hv;rfl
theorem zj0 {P:aQ0}{M:Nat}{rest:List Nat}{K:Prop}{c0:Cont}{sa:Option Addr}{l:List Int}{r:Rf}(h:aw0 w B y P a N)(hD:aj0 w bd B.s x)(hC:fC0 y x au0 slots)(hpg:y.pages<=2147483647)(hL:Live y (pgs x.rp au0++rest) M)(hK:K->bi0 y (pgs x.rp au0++rest))(hc:∀ k ∈ rest,y.cont k=c0 k)
  (hM:1+x.leaves+rest.length+2*M<y.pages) (hl:SlI w sa n c l) (hlF:∀ W,FrB B w W->SlI W sa n c l) (hn:n<=100000) (hany:l.any (iM0 x.slots)=false) (hr:aF0 r) (hN:N+2*n+3<=90000) :
  Calls Tryz.prog 50 #[cR0 bd,.slice sa n c,fT0 r.1 r.2] w (yw0 B bd x y P a (N+2*n+3) rest M K c0 (bQ0 slots (l.map Int.toNat) r) w):=by
 refine (callsIn_wide (n:=10)).1 ?_;have hlt:=fun r=>h.lt r
 have hbdp:=qg0 h hD;obtain⟨w1,hw1⟩:=eX (((w.alloc (.cells #[cR0 bd] 83)).alloc (.cells #[.int .i64 r.1,.int .i64 r.2] 35)).alloc (.cells #[.int .i64 0] 24))
 obtain⟨b0,b1,b2,F1⟩:=aO0 hw1;have s1:w1.heap.size=w.heap.size+3:=by rw[<- hw1];simp
 have x0:=coh b0 0;simp at x0;obtain⟨e0,e1,ez,el⟩:=cells2 b1;have hrt:=dQ0 r.1 r.2 w1;unfold ni0 at hrt;rw[show dR0 r.1 r.2=true by obtain⟨h1,h2,h3,h4⟩:=hr;simp[dR0];omega] at hrt;have HRT:=hid hrt;have HW1:=hid hw1;have H1:=hi2 b2 (aI F1 (aI b0 b1));have h0:0<w.heap.size:=by have:=h.base;have:=h.bs0;omega
 have H:=hi2 h (aI hD (aI hC (aI hL (aI hK (aI hc (aI hlF hr))))));have HCo:=hid (fun W (F:Fq w1 W)=>show Calls Tryz.prog 123 #[.slice sa n c,.func (.func 124) #[] #[.pointer (some ⟨w.heap.size,0,none⟩)]] W (gW0 (.bool false) W) by
  have:=ml0 (F.heap (F1.heap hD id) id:aj0 W bd B.s x) (F.heap b0 id) (by have:=hC.z.most;omega) ((hl.fr0 F1).fr0 F) hn;rw[hany] at this;exact this)
 have HLT:=hid hlt;have hp41:=hC.z.qu0;have HANY:=hid hany;clear hw1 b0 b1 b2 F1 hrt h hD hC hL hK hc hl hlF hany hr hlt;refine callsIn_of_wp_marks Tryz.func50 rfl trivial ?_ rfl;simp only[Tryz.ntmps50,zA,lC,lz9,Nat.reduceAdd,Nat.reduceSub,lq9,lr9,ly9,ls9,le9,lo9];gi_wp2_with (fail)
 rw[HW1.out];refine (callsIn_wide.2 HRT.out).mono ?_;rintro e W2 ⟨rfl,F2⟩;have hx2:=coh (F2.heap H1.out.2.2.1 id) 0;simp at hx2;have HC2:=hid (HCo.out _ F2);have HF2:=hid F2;clear F2 HCo HRT x0 e0 e1 ez el;gi_wp2_with (fail)
 refine (callsIn_wide.2 HC2.out).mono ?_;rintro e W3 ⟨rfl,m,rfl⟩;have hx3:(W2.drewN m).cell? ⟨w.heap.size,0,none⟩=some (cR0 bd):=hx2;have FW:Fq w (W2.drewN m):=(H1.out.2.1.trans HF2.out nI).drewN m;have HTop:=hid (AR0 (H.out.1.fr0 FW) (FW.heap H.out.2.1 id:aj0 _ bd B.s x) H.out.2.2.1 oM);have HF3:=hid FW;clear FW HC2 hx2;gi_wp2_with (fail)
 refine (callsIn_wide.2 HTop.out).mono ?_;rintro e W4 ⟨ta,nt,tc,err,rfl,F4,⟨rfl,hown,hS⟩|⟨rfl,ha,hDn⟩⟩
 ·have hnt:au0.length=nt:=(kr0 hown).symm;have F04:FrB B w W4:=FrB.trans (FrB.none HF3.out) F4;have hg:∀ (b:Nat) cs t,w1.heap[b]?=some (.cells cs t)->t ∉ em0->W4.heap[b]?=some (.cells cs t):=fun b cs t hb ht=>F4.heap ((HF2.out.drewN m).heap hb id) ht
  have q3:=hg _ _ _ H1.out.2.2.1 dC;have q5:=hg _ _ _ H1.out.2.2.2 dC;have q6:=hg _ _ _ H1.out.1 dC;have hx4:=coh q3 0;simp at hx4;have hl4:=loh q3;have hb1:w.heap.size+3<=(W2.drewN m).heap.size:=by have:=HF2.out.size;simp;omega
  have H4:=hi2 hS (aI (du0 hown hb1) (aI F04 (aI q3 (aI q5 (aI q6 (aI hnt (nT hb1 F4.size)))))));clear hown hS F4 F04 hg q3 q5 q6 hnt hb1 hx3;gi_wp2_with (fail)
  refine (callsIn_wide.2 (pn0 bd sa n c _)).mono ?_;rintro e w' ⟨rfl,rfl⟩;gi_wp2_with (fail)
  obtain⟨W0,hW0⟩:=eX (((W4.alloc (.cells #[.slice ta nt tc] 33)).alloc (.cells #[cR0 bd] 83)).alloc (.cells #[.slice sa n c] 52))
  obtain⟨p7,pdir,pbs,F0⟩:=aO0 hW0;have hsz:W0.heap.size=W4.heap.size+3:=by rw[<- hW0];simp
  rw[hW0];obtain⟨hS4,hown4,F04,q3,q5,q6,hnt,hsz4⟩:=H4.out;have hD0:aj0 W0 bd B.s x:=F0.heap (H.out.2.1.frB F04) id;have FB0:FrB B w W0:=FrB.trans F04 (FrB.none F0);have hin:∀ z ∈ l,0<=z/\z<1048577:=fun z hz=>by
   have h1:=mt9.1 HANY.out z hz;have h2:=(dr0 (x:=x) (by have:=H.out.2.2.1.z.most;omega)).1;simp[iM0] at h1;omega
  have hI0:yd0 w W0 B bd x y P a (N+1) rest M K c0 slots r ta nt tc W4.heap.size (W4.heap.size+2) (W4.heap.size+1) (.slice sa n c) [] 0:=
   ⟨F0.heap q3 id,F0.heap q5 id,F0.heap q6 id,p7,pbs,pdir,hD0,⟨y,au0,hnt,hS4.fr0 F0,H.out.2.2.1.au0 H.out.2.2.2.1 H.out.2.2.2.2.1 H.out.2.2.2.2.2.1,by have:=oRf hown4 F0 (fun _ _ _ h=>h);rw[hnt] at this;exact this,Like.refl y,rfl,rfl⟩,FB0⟩
  have hlt:=HLT.out;have hwW:w.heap.size<=W0.heap.size:=FB0.size;refine dP0 (F:=Fence.wide) rfl oM (gf:=186) (lb:=#[.pointer (some ⟨W4.heap.size+2,0,none⟩),.pointer (some ⟨W4.heap.size+1,0,none⟩)]) rfl trivial (enters_of Tryz.func186 kF rfl)
   (fun pre W=>yd0 w W B bd x y P a (N+1) rest M K c0 slots r ta nt tc W4.heap.size (W4.heap.size+2) (W4.heap.size+1) (.slice sa n c) (pre.flatMap (·.part)) (2*pre.length)/\pre.length<=n)
   (lr0 (w:=W0) pbs pdir hD0 (H.out.2.2.2.2.2.2.1 W0 FB0) hn ⟨H.out.2.2.1.z.per.1,hp41.2⟩ hin)
   (fun h k=>h.trans k) (fun W lp o o' hl ho hc _=>pf0 ho hc oM oM (by have:=loh hD0;omega)) (Below.refl _ _) (fun _=>rfl)
   (fun cc pre W=>(cc = .ret/\pre.length<=n)/\AM0 w W B y P a (N+1) (2*pre.length))
   (aZ0 (uA0 hwW hlt h0) (aJ0 _ _)) (fun cc=>aZ0 (aJ0 _ _) (vz0 hwW hlt)) ⟨hI0,la9 _⟩
   (fun z a' W=>zZ0 x.per l z W/\a'={ tmps:=#[cR0 bd,.slice sa n c,fT0 r.1 r.2,.pointer (some ⟨w.heap.size,0,none⟩),undef,.pointer (some ⟨w.heap.size+1,0,none⟩),.pointer (some ⟨w.heap.size+1+1,0,none⟩),.pointer (some ⟨W4.heap.size,0,none⟩),.int .i64 0,.int .i64 z.page,.slice z.a z.n z.c,undef,undef,undef,undef,cR0 bd,.bool false,.bool false,.agg #[.int .i64 r.1,.int .i64 r.2],.bool true,.bool false,.bool false,.slice sa n c,.func (.func 124) #[] #[.pointer (some ⟨w.heap.size,0,none⟩)],.bool false,.tuple #[.slice ta nt tc,.int .i64 0],cR0 bd,.tuple #[.slice ta nt tc,.int .i64 0],.slice ta nt tc,.int .i64 0,.int .i64 0,.bool false,undef,cR0 bd,.slice sa n c,.func (.func 186) #[] #[.pointer (some ⟨W4.heap.size+1+1,0,none⟩),.pointer (some ⟨W4.heap.size+1,0,none⟩)],.int .i64 z.page,.slice z.a z.n z.c,undef,undef,undef,undef,undef,undef,undef,undef,undef,undef,undef,undef,undef,undef,undef,undef,undef,undef,undef,undef,undef,undef,undef,undef,undef,undef,undef,undef,undef,undef,undef,undef,undef,undef,undef,undef,undef,undef,undef,undef,undef,undef,undef,undef,undef,undef,undef,undef,undef,undef,undef,undef,undef,undef,undef,undef,undef,undef,undef,undef,undef,undef,undef,undef],defers:=[] })
   (fun z a'=>aZ0 (tB0 _ _ _ _) (aJ0 _ _))
   ?assign ?body ?done ?stop
  case assign =>
   rintro lp pre z W K' hI hT hK;have HI:=hi2 hI (aI hT hK);clear hI hT hK hI0 p7 pdir pbs;gi_wp2
   exact HI.out.2.2 _ _ ((KeepsOthers.refl _).from _) (KpG.drewN _ _ _ _ 0) HI.out.1 ⟨HI.out.2.1,rfl⟩
  case body =>
   rintro lp pre ⟨zp,za,zn,zc,zpart⟩ a' W hl ⟨rr,hrr⟩ ⟨hI,-⟩ ⟨hT,rfl⟩ hlen;obtain⟨z,hz⟩:∃ z:Grp,(⟨zp,za,zn,zc,zpart⟩:Grp)=z:=⟨_,rfl⟩
   have HZ:=hid hz;rw[hz];obtain⟨y',tk,htk,hS,hSet,hown,hlike⟩:=hI.ex;obtain⟨hsl,hpart,⟨hz0,hz1⟩,g,off,cg,hga,hgc⟩:=hT;simp only at hsl hpart hz0 hz1 hga;rw[<- hz];simp only;subst hga;have hga:(some ⟨g,off,none⟩:Option Addr)=some ⟨g,off,none⟩:=rfl;have htl:au0.length=x.leaves:=H.out.2.2.1.tlen;have hz':kU0 y' x:=⟨H.out.2.2.1.z.most,⟨hp41.1 |> fun _=>H.out.2.2.1.z.per.1,by rw[hlike.1.room];exact H.out.2.2.1.z.per.2⟩,fun d hd=>by rw[hlike.1.room];exact H.out.2.2.1.z.fits d hd,by rw[hlike.1.room];exact H.out.2.2.1.z.room⟩;obtain⟨L,hLd⟩:=eX ((pre.flatMap (·.part)).map Int.toNat)
   rw[hLd] at hSet;have hslen:(bQ0 slots L r).length=x.slots:=by rw[gc0];exact H.out.2.2.1.slen
   have hsr:∀ q ∈ bQ0 slots L r,aF0 q:=fR0 H.out.2.2.1.leaf.sr H.out.2.2.2.2.2.2.2
   have hleaf:wu0 y'.cont x.per tk (bQ0 slots L r):=⟨hsr,hSet.right,fun i q hi=>hSet.cont i q _ hi rfl⟩;have htl':tk.length=x.leaves:=by rw[htk,<- hnt,htl]
   have hpgl:zp<nt:=by
    obtain⟨q,hq⟩:∃ q,zpart[0]?=some q:=⟨_,gE (by rw[hsl.len];exact hz0)⟩
    obtain⟨hql,kk,hkk,hkp⟩:=hpart q (gM hq);have h1:=mt9.1 HANY.out q hql;simp[iM0] at h1;have h2:kk<x.slots:=oM;rw[<- htk,htl',<- hkp];refine (fZ0 H.out.2.2.1.z.per.1 _).2 ?_;have:=Nat.div_mul_le_self kk x.per;omega
   have hRT:iG0 W ta tk:=by
    have ho:dC0 W (w.heap.size+3) (.slice ta tk.length tc) tk:=(by rw[<- htk] at hown;exact hown);obtain⟨a2,c2,e,hr2⟩:=by0 ho;cases e;exact hr2
   have HPg:=hid (mA0 hS hI.dir hz' hleaf hslen htl' (tc:=tc) htk hRT hpgl oM);have u3:=coh hI.b3 0;have u7:=coh hI.b7 0;simp at u3 u7;have HI:=hi2 hI (aI hS (aI hSet (aI hown (aI hlike (aI hsl (aI hpart (aI hga (aI hgc (aI htk (aI hslen (aI hsr (aI hz' hLd))))))))))));clear hI hS hSet hown hlike hsl hpart hga hgc htk hslen hsr hleaf htl' hRT hz' hLd htl hI0 p7 pdir pbs hrr;gi_wp2_with (fail)
   refine (CallsIn.inRound lp (callsIn_wide.2 HPg.out)).mono ?_;rintro e W5 ⟨v5,err,rfl,F5,⟨rfl,hown5,hS5⟩|⟨rfl,ha,hDn⟩⟩
   ·obtain⟨va,vc,rfl,hvc,-,-,-⟩:=oSl hown5;obtain⟨vn,hvn⟩:=eX ((chunk (bQ0 slots L r) x.per zp).length)
    rw[hvn];rw[hvn] at hvc;have hvl:vn<=41:=(by rw[<- hvn,bk0];omega);have H5:=hi2 (show W5.ownsRow W.heap.size 35 2 (.slice va vn vc) vn ((chunk (bQ0 slots L r) x.per zp).flatMap dB0) by rw[<- hvn];exact hown5) (aI hS5 (aI F5 hvn));have hWs:w.heap.size<=W.heap.size:=HI.out.1.fr.size;have hW3:w.heap.size+3<=W.heap.size:=(by have:=loh HI.out.1.b6;omega);have hp0:=H.out.2.2.1.z.per.1;have hp0':(x.per:Int)≠0:=oM;clear hown5 hS5 F5 hvn u3 u7;gi_wp2
    gi_loopw [50] (fun iv wr=>∃ k:Nat,k<=zn/\iv = .int .i64 k/\wr.ownsRow W.heap.size 35 2 (.slice va vn vc) vn ((bQ0 (chunk (bQ0 slots L r) x.per zp) (((zpart.take k).map Int.toNat).map (· % x.per)) r).flatMap dB0)/\Fr (fun b=>va=some ⟨b,0,none⟩) W5 wr) (fun iv _=>zn-(intOf iv).toNat)
    case atStart=>exact⟨0,la9 _,rfl,H5.out.1,Fr.refl _ _⟩
    case round =>
     obtain⟨k,hk,rfl,howr,hFr⟩:=hrel;have hX35:∀ b,va=some ⟨b,0,none⟩->W.heap.size<=b/\∃ c,W5.heap[b]?=some (.cells c 35):=fun b e=>by
      have:=oBT H5.out.1 (g:=b) (by rw[e];rfl);exact this
     have hkeep:∀ (b:Nat) cs t,W5.heap[b]?=some (.cells cs t)->(t≠35\/b<W.heap.size)->wr.heap[b]?=some (.cells cs t):=fun b cs t hb ht=>hFr.heap hb fun e=>by
      obtain⟨h1,c,hc⟩:=hX35 b e;rw[hb] at hc;cases hc;rcases ht with h|h
      ·exact h rfl
      ·omega
     by_cases hlt2:k<zn
     ·have hd:decide ((k:Int)<(zn:Int))=true:=sO;have hki:(k:Int)<(zn:Int):=oM;obtain⟨-,-,-,-,-,hsl,hpart,-,hgc,-,-,-,-,-⟩:=HI.out;obtain⟨q,hq⟩:∃ q,zpart[k]?=some q:=⟨_,gE (by rw[hsl.len];exact hlt2)⟩
      obtain⟨hql,kk,rfl,hkp⟩:=hpart q (gM hq);have hgr:=hkeep g _ _ (H5.out.2.2.1.heap hgc dC) (.inl dC);obtain⟨bq,oq,eq,-,hcq⟩:=hsl.at_ k _ hq;cases eq;have cq:wr.cell? ⟨g,off+k,none⟩=some (.int .i64 kk):=by
       rw[coh hgr,<- coh hgc];exact hcq
      have h3:=hkeep _ _ _ (H5.out.2.2.1.heap HI.out.1.b3 dC) (.inl dC);have h5':=hkeep _ _ _ (H5.out.2.2.1.heap HI.out.1.b5 dC) (.inr oM);have hdr:aj0 wr bd B.s x:=hkeep _ _ _ (HI.out.1.dir.frB H5.out.2.2.1) (.inl dC);have u3:=coh h3 0;simp at u3;obtain⟨e0,e1,ez,el⟩:=cells2 h5';obtain⟨c0',c1,c2,c3,c4,c5,cz,cl⟩:=aU0 hdr;have hml:=mD9 kk hp0;have hmv:kk % x.per<vn:=by
       have h1:=mt9.1 HANY.out _ hql;simp[iM0] at h1;rw[<- H5.out.2.2.2,bk0];have h2:=HI.out.2.2.2.2.2.2.2.2.2.2.1;rw[h2,<- hkp];have h4:=Nat.div_add_mod kk x.per;rw[lJ9] at h4;omega
      have e3:(kk:Int) % (x.per:Int)=((kk % x.per:Nat):Int):=sP;have e3t:(kk:Int).tmod (x.per:Int)=((kk % x.per:Nat):Int):=(by first|exact (Int.ofNat_tmod _ _).symm|simp);have hp0n:¬ x.per=0:=oM;have hmi:((kk % x.per:Nat):Int)<(vn:Int):=oM;have htk:(((zpart.take (k+1)).map Int.toNat).map (· % x.per))=(((zpart.take k).map Int.toNat).map (· % x.per))++[kk % x.per]:=(by rw[lw9,hq];simp);have HTK:=hid htk;obtain⟨l5,hl5⟩:=eX (bQ0 (chunk (bQ0 slots L r) x.per zp) (((zpart.take k).map Int.toNat).map (· % x.per)) r)
      have hl5n:l5.length=vn:=(by rw[<- hl5,gc0];exact H5.out.2.2.2);have hset:bQ0 (chunk (bQ0 slots L r) x.per zp) (((zpart.take (k+1)).map Int.toNat).map (· % x.per)) r=l5.set (kk % x.per) r:=(by rw[htk,iZ0,hl5];rfl);rw[hl5] at howr;have howr':dC0 wr W.heap.size (.slice va l5.length vc) l5:=(by rw[hl5n];rw[<- hl5n] at howr ⊢;exact howr);obtain⟨q5,hq5⟩:∃ q5,l5[kk % x.per]?=some q5:=⟨_,gE oM⟩
      obtain⟨g5,rfl,hg5,d0,d1⟩:=ip0 howr' hq5;obtain⟨hg5w,c5',hc5'⟩:=oBT howr' (g:=g5) rfl;have d5z:=fun o=>foh hc5' o
      have hos:=mB0 howr' (k:=kk % x.per) oM r.1 r.2;have HS:=hi2 hos (aI hset (aI hFr hl5n));clear htk hl5 hset howr howr' hq hql hkp hgr hcq hgc hsl hpart h3 h5' hdr hX35 hkeep hq5 hc5' hos hFr hl5n HTK;generalize kk % x.per=qm at *
      gi_wp2
      refine fS0 9 kF kF (fun h=>by obtain⟨_,_,h⟩:=h;exact h) kF ?_;simp only[mY9,List.take_zero,List.drop_succ_cons,List.drop_zero];repeat still_step
      refine wpStill_nil ?_;refine wpList_plain rfl (fun K hK=>?_);go_simp;refine hK _ _ (wpList_nil ?_);clear hK K;gi_wp2
      go_roundw;case rel =>
       obtain⟨hos,hset,hFr,hl5n⟩:=HS.out;refine⟨k+1,hlt2,by go_num,?_,?_⟩
       ·rw[hset];rw[lx9,hl5n] at hos;exact oRf hos ((Fr.refl (fun _=>False) _).drew) (fun _ _ _ h=>h)
       ·exact Fr.drew (Fr.setCell (S:=fun b=>(some ⟨g5,0,none⟩:Option Addr)=some ⟨b,0,none⟩) (a:=⟨g5,qm*2+1,none⟩) (Fr.setCell (S:=fun b=>(some ⟨g5,0,none⟩:Option Addr)=some ⟨b,0,none⟩) (a:=⟨g5,qm*2,none⟩) hFr (fun _=>rfl) _) (fun _=>rfl) _)
      case measure=>simp[intOf];omega
     ·obtain rfl:k=zn:=by omega
      have hd:decide ((k:Int)<(k:Int))=false:=sP;obtain⟨hI1,hS1,hSet,hown,hlike,hsl,hpart,-,hgc,htk,hslen,hsr,hz',hLd⟩:=HI.out;rw[tL (by rw[hsl.len];exact nR _)] at howr;obtain⟨l5,hl5⟩:=eX (bQ0 (chunk (bQ0 slots L r) x.per zp) ((zpart.map Int.toNat).map (· % x.per)) r)
      have hl5n:l5.length=vn:=(by rw[<- hl5,gc0];exact H5.out.2.2.2);have hl5r:∀ z ∈ l5,aF0 z:=(by rw[<- hl5];exact fR0 (ew0 hsr x.per zp) H.out.2.2.2.2.2.2.2);rw[hl5] at howr
      have hvpos:0<vn:=by
       have h1:zp<x.leaves:=(by rw[<- H.out.2.2.1.tlen,hnt];exact hpgl);have h2:=(fZ0 hp0 zp).1 h1;rw[<- H5.out.2.2.2,bk0,hslen];omega
      have howr':dC0 wr W.heap.size (.slice va l5.length vc) l5:=(by rw[hl5n];rw[<- hl5n] at howr ⊢;exact howr);obtain⟨q5,hq5⟩:∃ q5,l5[0]?=some q5:=⟨_,gE oM⟩
      obtain⟨gv,rfl,hgv,-,-⟩:=ip0 howr' hq5;obtain⟨hgvw,cv5,hcv5⟩:=hX35 gv rfl;have hFr':Fr (fun b=>b=gv) W5 wr:=hFr.mono fun b _ e=>by cases e;rfl
      have FW:FrB B W wr:=Fr.trans H5.out.2.2.1 hFr' (fun b hb e=>oM);have hSr:aw0 wr B y' P a (N+1+2*pre.length+1):=H5.out.2.1.frL hFr' hcv5 dC oM;obtain⟨⟨q1,q2⟩,hq⟩:∃ q,tk[zp]?=some q:=⟨_,gE (by rw[htk];exact hpgl)⟩
      obtain⟨hp1,hp2,hp3,hp4⟩:=hSet.page hq;obtain⟨pn,rfl⟩:=iZ (hSet.right _ (gM hq)).1;simp only[lG9] at hp2 hp3 hp4;have howt:dC0 wr (w.heap.size+3) (.slice ta tk.length tc) tk:=by
       rw[htk];have:=oRf hown FW (fun g c hg hs=>absurd (hs.2.1 c 35 _ hg) dC);rw[<- htk] at this ⊢;exact this
      obtain⟨gt,rfl,hgt,t0,t1⟩:=ip0 howt hq;simp only at t0 t1;obtain⟨hgt0,ct,hct⟩:=oBT howt (g:=gt) rfl;have hfree:=hSet.live.free (by have h1:y'.pages=y.pages:=hlike.1.pages;simp only[pgs,lA,lC,ln9];rw[htk,<- hnt,H.out.2.2.1.tlen,h1];omega);have h12:12*l5.length<=y'.room:=by
       have h1:=hz'.per.2;have h2:vn<=x.per:=(by rw[<- H5.out.2.2.2,bk0];omega);rw[hl5n];omega
      obtain⟨a2,c2,e2,hT5⟩:=by0 howr';obtain⟨rfl,rfl⟩:a2=some ⟨gv,0,none⟩/\c2=vc:=by cases e2;exact⟨rfl,rfl⟩
      have HLd:=hid (fun V (F:Fq wr V)=>iy0 (c:=c2) ((hT5.fr0 F).row) hl5r hl5n oM);have HWr:=hid (fun V la lc (F:Fq wr V) (hb:ByV V la (12*l5.length) lc (ae0 l5))=>iO0 (hSr.fr0 F) pn q2 (hb.inp B) (bh0 _) h12 hp2 hp3 hp4 hfree oM);have h7:=FW.heap hI1.b7 dC;have h3:=FW.heap hI1.b3 dC;have HS:=hid (fun V (F:FrB B wr V)=>show V.cell? ⟨W4.heap.size,0,none⟩=some (.slice (some ⟨gt,0,none⟩) nt tc)/\V.cell? ⟨w.heap.size,0,none⟩=some (cR0 bd)/\V.cell? ⟨bd,0,none⟩=some (.pointer (some ⟨B.s,0,none⟩)) from
       ⟨coh (F.heap h7 dC) 0,coh (F.heap h3 dC) 0,(aU0 ((hI1.dir.frB FW).frB F)).1⟩)
      have HT:=hid (fun V (F:FrB B wr V)=>show V.cell? ⟨gt,zp*2,none⟩=some (.int .i64 pn)/\V.cell? ⟨gt,zp*2+1,none⟩=some (.int .i64 q2)/\(∀ o,V.frozen? ⟨gt,o,none⟩=false)/\gt<V.heap.size by
       have hn:¬ (B.base<=gt/\vg0 B wr gt):=fun hs=>absurd (hs.2.1 ct 35 _ hct) dC
       have hv:=FrB.heap F hct dC;exact⟨(Fr.cell F (p:=⟨gt,_,none⟩) hgt hn).trans t0,(Fr.cell F (p:=⟨gt,_,none⟩) hgt hn).trans t1,fun o=>foh hv o,loh hv⟩)
      obtain⟨s1,s2,s3⟩:=HS.out wr (FrB.refl _ _);have hne7:¬ gt=w.heap.size+1+1:=oM;have HC:=hid hct;have HB6:=hid (FW.heap hI1.b6 dC);have hne4:¬ gt=W4.heap.size:=fun e=>by rw[e,h7] at hct;cases hct
      have hne5:¬ gt=w.heap.size:=oM;have hne6:¬ gt=bd:=fun e=>by have:=loh H.out.2.1;omega
      have hzpi:(zp:Int)<(nt:Int):=oM;have HR:=hi2 hI1 (aI hS1 (aI hSet (aI hown (aI hlike (aI hpart (aI htk (aI hq (aI FW (aI hLd (aI hl5 hl5n))))))))));clear hl5n hI1 hS1 hSet hown hlike hsl hpart hgc htk hslen hsr hz' hLd howr howr' hq5 hgvw hcv5 hFr hFr' FW hSr hq hp1 hp2 hp3 hp4 howt hct hfree h12 e2 hT5 h7 h3 hl5 hl5r hX35 hkeep;gi_wp2
      refine cK0 (fun V=>V.cell? ⟨W4.heap.size,0,none⟩=some (.slice (some ⟨gt,0,none⟩) nt tc)/\V.cell? ⟨w.heap.size,0,none⟩=some (cR0 bd)/\V.cell? ⟨bd,0,none⟩=some (.pointer (some ⟨B.s,0,none⟩)))
       (.rd 0 (.rd 1 (.rd 2 (.rd 3 (.rd 4 (.rd 5 (.rd 6 (.rd 7 (.rd 8 (.rd 10 (.two 9 11 (.op 11 (.op 12 (.rd 13 (.rd 14 (.rd 15 (.rd 16 (.op 17 (.rd 18 .done)))))))) (.op 9 (.op 12 (.rd 13 (.rd 14 (.rd 15 (.rd 16 (.op 17 (.rd 18 .done)))))))))))))))))))
       kF kF kF kF (fun h=>by obtain⟨_,_,h⟩:=h;exact h) (fun _ _ _ _ _ h=>h) (HS.out _ (FrB.none ((Fr.refl _ _).drew))) ?_
      iterate 10
       try simp only[Act.put,sI,sZ,sS]
       refine ay0 _ ?_ gF rF ?_ ?_;rotate_left
       ·intro V hV;obtain⟨s1,s2,s3⟩:=hV;go_simp;try with_reducible rfl
      try simp only[Act.put,sI,sZ,sS]
      refine bn0 ?_ ?_
      ·refine az0 _ gF rF (fun K hK=>?_);go_simp;refine hK _ _ (HS.out _ (FrB.none ((Fr.refl _ _).drew))) ?_;clear hK K;try simp only[Act.put,sI,sZ,sS]
       refine az0 _ gF rF (fun K hK=>?_);go_simp;refine (HLd.out _ ((Fr.refl _ _).drew)).mono ?_;rintro _ V5 ⟨la,lc,rfl,hb,F5⟩;have F5w:Fq wr V5:=((Fr.refl _ _).drew).trans F5 nI;try go_simp
       refine hK _ _ (HS.out V5 (FrB.none F5w)) ?_;clear hK K;try simp only[Act.put,sI,sZ,sS]
       refine az0 _ gF rF (fun K' hK'=>?_);go_simp;refine (HWr.out _ _ _ F5w hb).mono ?_;rintro _ V6 ⟨p6,s6,err,rfl,F6,hr6⟩;have F6w:FrB B wr V6:=FrB.trans (FrB.none F5w) F6;try go_simp
       refine hK' _ _ (HS.out V6 F6w) ?_;clear hK' K';iterate 4
        try simp only[Act.put,sI,sZ,sS]
        refine ay0 _ ?_ gF rF ?_ ?_;rotate_left
        ·intro V hV;obtain⟨s1,s2,s3⟩:=hV;go_simp;try with_reducible rfl
       try simp only[Act.put,sI,sZ,sS]
       obtain⟨g0,g1,gz,gl⟩:=HT.out V6 F6w;obtain⟨s1,s2,s3⟩:=HS.out V6 F6w;refine az0 _ gF rF (fun K' hK'=>?_);go_simp;refine hK' _ _ (by simp[go_sem, *]) ?_;clear hK' K' s1 s2 s3;try simp only[Act.put,sI,sZ,sS]
       refine ay0 _ ?_ gF rF ?_ ?_;rotate_left
       ·intro V hV;obtain⟨s1,s2,s3⟩:=hV;go_simp;try with_reducible rfl
       try simp only[Act.put,sI,sZ,sS]
       refine ar0 ?_;have hgc6:=FrB.heap F6w HC.out dC;have hb6:=FrB.heap F6w HB6.out dC;rcases hr6 with⟨rfl,m',rfl,rfl,hm',hS6⟩|⟨rfl,ha,hDn⟩
       ·have HE:=hi2 hm' (aI hS6 (aI F6w hgc6));clear hm' hS6 F6w F6 F5w F5 hb hgc6 hb6 g0 g1 gz gl;gi_wp2
        obtain⟨hm',hS6,F6w,hgc6⟩:=HE.out;obtain⟨hI1,hS1,hSet,hown,hlike,hpart,htk,hq,FW,hLd,hl5,hl5n⟩:=HR.out;have F06:=FrB.trans FW F6w;have hst:=lR0 hI1 htk hS1 (by rw[hLd];exact hSet) hown hlike hp0 hpg hq hm' (fun z hz=>(hpart z hz).2) F06 (by rw[hLd,hl5];exact hS6);have hkp:=nH0 (i:=0) F06 hgc6 hI1.bs_ hI1.bdir_ hI1.dir (m:=zp*2) (n:=zp*2+1) (.int .i64 m') (.int .i64 y'.gen);have hke:=((F06.keeps (fun r=>by have:=hlt r;omega:∀ r,B.at_ r<W0.heap.size)).trans ((KeepsOthers.setCell _ ⟨gt,zp*2,none⟩ (.int .i64 m')).from _)).trans ((KeepsOthers.setCell _ ⟨gt,zp*2+1,none⟩ (.int .i64 y'.gen)).from _);refine⟨hke,hkp,?_,by simp;omega⟩;have e1:(pre++[({ page:=zp,a:=some ⟨g,off,none⟩,n:=k,c:=zc,part:=zpart }:Grp)]).flatMap (·.part)=pre.flatMap (·.part)++zpart:=sP;have e2:2*(pre++[({ page:=zp,a:=some ⟨g,off,none⟩,n:=k,c:=zc,part:=zpart }:Grp)]).length=2*pre.length+2:=sO;rw[e1,e2];exact hst
       ·have z6:=coh hb6 0;have zz6:=foh hb6 0;have zl6:=loh hb6;simp at z6;have HE:=hi2 ha (aI hDn (aI F6w (aI hgc6 hb6)));clear ha hDn F6w F6 F5w F5 hb hgc6 hb6 g0 g1 gz gl;gi_wp2
        obtain⟨ha,hDn,F6w,hgc6,hb6⟩:=HE.out;obtain⟨hI1,hS1,hSet,hown,hlike,hpart,htk,hq,FW,hLd,hl5,hl5n⟩:=HR.out;have F06:=FrB.trans FW F6w;obtain⟨V7,hV7⟩:=eX ((V6.setCell ⟨gt,zp*2,none⟩ (.int .i64 p6)).setCell ⟨gt,zp*2+1,none⟩ (.int .i64 s6))
        have hke:=((F06.keeps (fun r=>by have:=hlt r;omega:∀ r,B.at_ r<W0.heap.size)).trans ((KeepsOthers.setCell _ ⟨gt,zp*2,none⟩ (.int .i64 p6)).from _)).trans ((KeepsOthers.setCell _ ⟨gt,zp*2+1,none⟩ (.int .i64 s6)).from _);have F7:Fr (fun b=>b=gt) V6 V7:=(by rw[<- hV7];exact ia0 _ _);have hb7:=F7.heap hb6 (fun e=>hne7 e.symm);have hd7:=hDn.frL F7 hgc6 dC;have F07:FrB B w V7:=rx0 (FrB.trans hI1.fr F06) F7 oM;rw[hV7] at hke ⊢;have FL:Fr (fun b=>b=w.heap.size+1+1) V7 (V7.setCell ⟨w.heap.size+1+1,0,none⟩ (.int .i64 4)):=Fr.setCell (S:=fun b=>b=w.heap.size+1+1) (Fr.refl _ _) (fun _=>rfl) _;refine⟨hke.trans ((KeepsOthers.setCell _ _ _).from _),⟨rfl,by simp;omega⟩,⟨by rw[hsc _ _ _ _ hb7];rfl,?_,rx0 F07 FL oM,ha⟩⟩;exact ((aX0 hd7 hlike.1).frL FL hb7 dC).mono sO
      ·refine az0 _ gF rF (fun K hK=>?_);go_simp;refine (HLd.out _ ((Fr.refl _ _).drew)).mono ?_;rintro _ V5 ⟨la,lc,rfl,hb,F5⟩;have F5w:Fq wr V5:=((Fr.refl _ _).drew).trans F5 nI;try go_simp
       refine hK _ _ (HS.out V5 (FrB.none F5w)) ?_;clear hK K;try simp only[Act.put,sI,sZ,sS]
       obtain⟨g0,g1,gz,gl⟩:=HT.out V5 (FrB.none F5w);refine az0 _ gF rF (fun K hK=>?_);go_simp;refine hK _ _ (HS.out V5 (FrB.none F5w)) ?_;clear hK K g0 g1 gz gl;try simp only[Act.put,sI,sZ,sS]
       refine az0 _ gF rF (fun K' hK'=>?_);go_simp;refine (HWr.out _ _ _ F5w hb).mono ?_;rintro _ V6 ⟨p6,s6,err,rfl,F6,hr6⟩;have F6w:FrB B wr V6:=FrB.trans (FrB.none F5w) F6;try go_simp
       refine hK' _ _ (HS.out V6 F6w) ?_;clear hK' K';iterate 4
        try simp only[Act.put,sI,sZ,sS]
        refine ay0 _ ?_ gF rF ?_ ?_;rotate_left
        ·intro V hV;obtain⟨s1,s2,s3⟩:=hV;go_simp;try with_reducible rfl
       try simp only[Act.put,sI,sZ,sS]
       obtain⟨g0,g1,gz,gl⟩:=HT.out V6 F6w;obtain⟨s1,s2,s3⟩:=HS.out V6 F6w;refine az0 _ gF rF (fun K' hK'=>?_);go_simp;refine hK' _ _ (by simp[go_sem, *]) ?_;clear hK' K' s1 s2 s3;try simp only[Act.put,sI,sZ,sS]
       refine ay0 _ ?_ gF rF ?_ ?_;rotate_left
       ·intro V hV;obtain⟨s1,s2,s3⟩:=hV;go_simp;try with_reducible rfl
       try simp only[Act.put,sI,sZ,sS]
       refine ar0 ?_;have hgc6:=FrB.heap F6w HC.out dC;have hb6:=FrB.heap F6w HB6.out dC;rcases hr6 with⟨rfl,m',rfl,rfl,hm',hS6⟩|⟨rfl,ha,hDn⟩
       ·have HE:=hi2 hm' (aI hS6 (aI F6w hgc6));clear hm' hS6 F6w F6 F5w F5 hb hgc6 hb6 g0 g1 gz gl;gi_wp2
        obtain⟨hm',hS6,F6w,hgc6⟩:=HE.out;obtain⟨hI1,hS1,hSet,hown,hlike,hpart,htk,hq,FW,hLd,hl5,hl5n⟩:=HR.out;have F06:=FrB.trans FW F6w;have hst:=lR0 hI1 htk hS1 (by rw[hLd];exact hSet) hown hlike hp0 hpg hq hm' (fun z hz=>(hpart z hz).2) F06 (by rw[hLd,hl5];exact hS6);have hkp:=nH0 (i:=0) F06 hgc6 hI1.bs_ hI1.bdir_ hI1.dir (m:=zp*2) (n:=zp*2+1) (.int .i64 m') (.int .i64 y'.gen);have hke:=((F06.keeps (fun r=>by have:=hlt r;omega:∀ r,B.at_ r<W0.heap.size)).trans ((KeepsOthers.setCell _ ⟨gt,zp*2,none⟩ (.int .i64 m')).from _)).trans ((KeepsOthers.setCell _ ⟨gt,zp*2+1,none⟩ (.int .i64 y'.gen)).from _);refine⟨hke,hkp,?_,by simp;omega⟩;have e1:(pre++[({ page:=zp,a:=some ⟨g,off,none⟩,n:=k,c:=zc,part:=zpart }:Grp)]).flatMap (·.part)=pre.flatMap (·.part)++zpart:=sP;have e2:2*(pre++[({ page:=zp,a:=some ⟨g,off,none⟩,n:=k,c:=zc,part:=zpart }:Grp)]).length=2*pre.length+2:=sO;rw[e1,e2];exact hst
       ·have z6:=coh hb6 0;have zz6:=foh hb6 0;have zl6:=loh hb6;simp at z6;have HE:=hi2 ha (aI hDn (aI F6w (aI hgc6 hb6)));clear ha hDn F6w F6 F5w F5 hb hgc6 hb6 g0 g1 gz gl;gi_wp2
        obtain⟨ha,hDn,F6w,hgc6,hb6⟩:=HE.out;obtain⟨hI1,hS1,hSet,hown,hlike,hpart,htk,hq,FW,hLd,hl5,hl5n⟩:=HR.out;have F06:=FrB.trans FW F6w;obtain⟨V7,hV7⟩:=eX ((V6.setCell ⟨gt,zp*2,none⟩ (.int .i64 p6)).setCell ⟨gt,zp*2+1,none⟩ (.int .i64 s6))
        have hke:=((F06.keeps (fun r=>by have:=hlt r;omega:∀ r,B.at_ r<W0.heap.size)).trans ((KeepsOthers.setCell _ ⟨gt,zp*2,none⟩ (.int .i64 p6)).from _)).trans ((KeepsOthers.setCell _ ⟨gt,zp*2+1,none⟩ (.int .i64 s6)).from _);have F7:Fr (fun b=>b=gt) V6 V7:=(by rw[<- hV7];exact ia0 _ _);have hb7:=F7.heap hb6 (fun e=>hne7 e.symm);have hd7:=hDn.frL F7 hgc6 dC;have F07:FrB B w V7:=rx0 (FrB.trans hI1.fr F06) F7 oM;rw[hV7] at hke ⊢;have FL:Fr (fun b=>b=w.heap.size+1+1) V7 (V7.setCell ⟨w.heap.size+1+1,0,none⟩ (.int .i64 4)):=Fr.setCell (S:=fun b=>b=w.heap.size+1+1) (Fr.refl _ _) (fun _=>rfl) _;refine⟨hke.trans ((KeepsOthers.setCell _ _ _).from _),⟨rfl,by simp;omega⟩,⟨by rw[hsc _ _ _ _ hb7];rfl,?_,rx0 F07 FL oM,ha⟩⟩;exact ((aX0 hd7 hlike.1).frL FL hb7 dC).mono sO
   ·have hF5:=FrB.trans HI.out.1.fr F5;have hb6:=F5.heap HI.out.1.b6 dC;have z6:=coh hb6 0;have zz6:=foh hb6 0;have zl6:=loh hb6;simp at z6;have HY:=hi2 ha (aI hDn (aI hF5 (aI hb6 (F5.keeps (fun r=>by have:=hlt r;omega:∀ r,B.at_ r<W0.heap.size)))));clear ha hDn hF5 hb6;gi_wp2
    obtain⟨ha,hDn,hF5,hb6,hke⟩:=HY.out;have FL:Fr (fun b=>b=w.heap.size+1+1) W5 (W5.setCell ⟨w.heap.size+1+1,0,none⟩ (.int .i64 4)):=Fr.setCell (S:=fun b=>b=w.heap.size+1+1) (Fr.refl _ _) (fun _=>rfl) _;refine⟨hke.trans ((KeepsOthers.setCell _ _ _).from _),⟨rfl,by simp;omega⟩,⟨by rw[hsc _ _ _ _ hb6];rfl,?_,rx0 hF5 FL oM,ha⟩⟩;exact ((aX0 hDn HI.out.2.2.2.2.1.1).frL FL hb6 dC).mono sO
  case done =>
   rintro D xs W hDD hxs ⟨hI,hxl⟩ hK;obtain⟨y',tk,htk,hS,hSet,hown,hlike⟩:=hI.ex;rw[hxs,nq0] at hSet;subst htk;have htl:tk.length=x.leaves:=by rw[<- hnt];exact H.out.2.2.1.tlen
   have hz':kU0 y' x:=⟨H.out.2.2.1.z.most,⟨H.out.2.2.1.z.per.1,by rw[hlike.1.room];exact H.out.2.2.1.z.per.2⟩,fun d hd=>by rw[hlike.1.room];exact H.out.2.2.1.z.fits d hd,by rw[hlike.1.room];exact H.out.2.2.1.z.room⟩;have hslen:(bQ0 slots (l.map Int.toNat) r).length=x.slots:=by rw[gc0];exact H.out.2.2.1.slen
   have hsr:∀ q ∈ bQ0 slots (l.map Int.toNat) r,aF0 q:=fR0 H.out.2.2.1.leaf.sr H.out.2.2.2.2.2.2.2
   obtain⟨hp1,hp2,hp3,hp4⟩:=hSet.zn0;have hfree:=hSet.live.free (by have h1:y'.pages=y.pages:=hlike.1.pages;simp only[pgs,lA,lC,ln9];omega);have h12:12*tk.length<=y'.room:=by rw[hlike.1.room,htl];exact H.out.2.2.1.z.leaves
   have hRT:iG0 W ta tk:=by
    obtain⟨a2,c2,e,hr2⟩:=by0 (show dC0 W (w.heap.size+3) (.slice ta tk.length tc) tk from hown);cases e;exact hr2
   have HLd:=hid (fun V (F:Fq W V)=>iy0 (c:=tc) ((hRT.fr0 F).row) hSet.right rfl oM);have HWr:=hid (fun V la lc (F:Fq W V) (hb:ByV V la (12*tk.length) lc (ae0 tk))=>show Calls Tryz.prog 26 #[B.ptr,fT0 x.rp x.rs,.slice la (12*tk.length) lc] V (ql0 B y' P a (N+1+2*xs.length) x.rp.toNat (ae0 tk) V) by
    have:=iO0 (hS.fr0 F) x.rp.toNat x.rs (hb.inp B) (bh0 _) h12 hp2 hp3 hp4 hfree oM;rw[<- hp1] at this;exact this)
   have HB:=hid (fun V (F:FrB B W V)=>show V.cell? ⟨w.heap.size,0,none⟩=some (cR0 bd)/\V.cell? ⟨W4.heap.size,0,none⟩=some (.slice ta tk.length tc) from⟨coh (F.heap hI.b3 dC) 0,coh (F.heap hI.b7 dC) 0⟩);have HDr:=hid hI.dir;obtain⟨u3,u7⟩:=HB.out W (FrB.refl _ _);obtain⟨c0',c1,c2,c3,c4,c5,cz,cl⟩:=aU0 hI.dir;have hbdl:bd<w.heap.size:=loh H.out.2.1;have hne1:¬ bd=w.heap.size:=oM
   have hne2:¬ bd=W4.heap.size:=oM
   have HI:=hi2 hI.fr (aI hI.b6 (aI hS (aI hSet (aI hlike (aI hz' (aI hslen (aI hsr (aI hxl (aI hK htl)))))))));clear hI hS hSet hown hlike hz' hslen hsr hp1 hp2 hp3 hp4 hfree h12 hRT hxs hI0 p7 pdir pbs hK hnt htl hown4 q3 q5 q6;gi_wp2
   refine wpIn_wide.2 ?_;have HS:=hid (fun V (F:FrB B W V)=>show V.cell? ⟨w.heap.size,0,none⟩=some (cR0 bd)/\V.cell? ⟨W4.heap.size,0,none⟩=some (.slice ta tk.length tc)/\V.cell? ⟨bd,0,none⟩=some (.pointer (some ⟨B.s,0,none⟩)) from⟨(HB.out V F).1,(HB.out V F).2,(aU0 (HDr.out.frB F)).1⟩);clear u3 u7 c0' c1 c2 c3 c4 c5 cz cl;refine wp_region_noPanic ?_;refine aq0 (fun V=>V.cell? ⟨w.heap.size,0,none⟩=some (cR0 bd)/\V.cell? ⟨W4.heap.size,0,none⟩=some (.slice ta tk.length tc)/\V.cell? ⟨bd,0,none⟩=some (.pointer (some ⟨B.s,0,none⟩)))
    (.rd 0 (.rd 1 (.rd 2 (.rd 3 (.rd 4 (.rd 5 (.rd 6 (.rd 7 (.rd 9 (.two 8 10 (.op 10 (.op 11 (.rd 12 (.rd 13 (.rd 14 (.rd 15 (.rd 16 (.op 17 (.rd 18 .done))))))))) (.op 8 (.op 11 (.rd 12 (.rd 13 (.rd 14 (.rd 15 (.rd 16 (.op 17 (.rd 18 .done)))))))))))))))))))
    kF kF kF (fun _ _ _ _ _ h=>h) (HS.out _ (FrB.none ((Fr.refl _ _).drew))) ?_
   iterate 9
    try simp only[Act.put,sI,sZ,sS]
    refine ay0 _ ?_ gF rF ?_ ?_;rotate_left
    ·intro V hV;obtain⟨s1,s2,s3⟩:=hV;go_simp;try with_reducible rfl
   try simp only[Act.put,sI,sZ,sS]
   refine bn0 ?_ ?_
   ·skip
    obtain⟨c0',c1,c2,c3,c4,c5,cz,cl⟩:=aU0 (HDr.out.frB (FrB.none (B:=B) ((Fr.refl _ _).drew)));refine az0 _ gF rF (fun K hK=>?_);go_simp;refine hK _ _ (HS.out _ (FrB.none ((Fr.refl _ _).drew))) ?_;clear hK K c0' c1 c2 c3 c4 c5 cz cl;try simp only[Act.put,sI,sZ,sS]
    refine az0 _ gF rF (fun K hK=>?_);go_simp;refine (HLd.out _ ((Fr.refl _ _).drew)).mono ?_;rintro _ W5 ⟨la,lc,rfl,hb,F5⟩;have F5w:Fq W W5:=((Fr.refl _ _).drew).trans F5 nI;try go_simp
    refine hK _ _ (HS.out _ (FrB.none F5w)) ?_;clear hK K;try simp only[Act.put,sI,sZ,sS]
    refine az0 _ gF rF (fun K hK=>?_);go_simp;refine (HWr.out _ _ _ F5w hb).mono ?_;rintro _ W6 ⟨p6,s6,err,rfl,F6,hr6⟩;have F6w:FrB B W W6:=FrB.trans (FrB.none F5w) F6;have hD6:=HDr.out.frB F6w;try go_simp
    refine hK _ _ (HS.out _ F6w) ?_;clear hK K;iterate 5
     try simp only[Act.put,sI,sZ,sS]
     refine ay0 _ ?_ gF rF ?_ ?_;rotate_left
     ·intro V hV;obtain⟨s1,s2,s3⟩:=hV;go_simp;try with_reducible rfl
    try simp only[Act.put,sI,sZ,sS]
    obtain⟨u3,u7,-⟩:=HS.out _ F6w;obtain⟨c0',c1,c2,c3,c4,c5,cz,cl⟩:=aU0 hD6;refine az0 _ gF rF (fun K hK=>?_);go_simp;refine hK _ _ (by simp[go_sem, *]) ?_;clear hK K;try simp only[Act.put,sI,sZ,sS]
    refine ay0 _ ?_ gF rF ?_ ?_;rotate_left
    ·intro V hV;obtain⟨s1,s2,s3⟩:=hV;go_simp;try with_reducible rfl
    try simp only[Act.put,sI,sZ,sS]
    refine ar0 ?_;refine NoPanic.normal ?_;obtain⟨i1,i2,i3,i4,i5,i6,i7,i8,i9,i10,i11⟩:=HI.out;have hF06:FrB B w W6:=FrB.trans i1 F6w;have hb6:=F6w.heap i2 dC;have hK6:=(F6w.keeps (B0:=W0.heap.size) (fun r=>by have:=hlt r;omega)).same D _ hDD i10 rfl;have z0:=coh hb6 0;have zz:=foh hb6 0;have zl:=loh hb6;simp at z0;have hne3:¬ bd=w.heap.size+1+1:=oM;have hne3':¬ w.heap.size+1+1=bd:=oM;rcases hr6 with⟨rfl,m',rfl,rfl,hm',hS6⟩|⟨rfl,ha,hDn⟩
    ·have hE:=sU0 i4 i3.apart i6 i7 i11 i8 hm' rfl;have H9:=hi2 hE (aI hF06 (aI hD6 (aI hb6 (aI hK6 (aI hS6 (aI i5 i9))))));clear hE hF06 hD6 hb6 hK6 hS6 hm' i1 i2 i3 i4 i5 i6 i7 i8 i9 i10 i11 F6w F6 F5w F5 hb c0' c1 c2 c3 c4 c5 cz cl u3 u7;gi_wp2
     obtain⟨hE,hF06,hD6,hb6,hK6,hS6,hlike,hxl⟩:=H9.out;obtain⟨f1,f2,-⟩:=cN0 (u:=.int .i64 m') (v:=.int .i64 y'.gen) (e:=.int .i64 0) hF06 hD6 hb6 hK6 oM oM hbdl;exact iY0 f1 f2 oM (sT0 hF06 hD6 hb6 hK6 oM oM hbdl hbdp hlt hS6 oM oM hlike.2.1 ⟨hE.1,hE.2.1,hE.2.2.1,hE.2.2.2.1,hlike.1.trans hE.2.2.2.2.1,hE.2.2.2.2.2.1.trans hlike.2.1,hE.2.2.2.2.2.2.trans hlike.2.2⟩) rfl
    ·have H9:=hi2 ha (aI hF06 (aI hD6 (aI hb6 (aI hK6 (aI hDn (aI i5 i9))))));clear ha hF06 hD6 hb6 hK6 hDn i1 i2 i3 i4 i5 i6 i7 i8 i9 i10 i11 F6w F6 F5w F5 hb c0' c1 c2 c3 c4 c5 cz cl u3 u7;gi_wp2
     obtain⟨ha,hF06,hD6,hb6,hK6,hDn,hlike,hxl⟩:=H9.out;obtain⟨f1,f2,-⟩:=cN0 (u:=.int .i64 p6) (v:=.int .i64 s6) (e:=.int .i64 4) hF06 hD6 hb6 hK6 oM oM hbdl;exact iY0 f1 f2 oM (fG0 hF06 hD6 hb6 hK6 oM oM hbdl hlt (aX0 hDn hlike.1) oM ha) rfl
   ·skip
    refine az0 _ gF rF (fun K hK=>?_);go_simp;refine (HLd.out _ ((Fr.refl _ _).drew)).mono ?_;rintro _ W5 ⟨la,lc,rfl,hb,F5⟩;have F5w:Fq W W5:=((Fr.refl _ _).drew).trans F5 nI;try go_simp
    refine hK _ _ (HS.out _ (FrB.none F5w)) ?_;clear hK K;try simp only[Act.put,sI,sZ,sS]
    obtain⟨c0',c1,c2,c3,c4,c5,cz,cl⟩:=aU0 (HDr.out.frB (FrB.none (B:=B) (F5w)));refine az0 _ gF rF (fun K hK=>?_);go_simp;refine hK _ _ (HS.out _ (FrB.none (F5w))) ?_;clear hK K c0' c1 c2 c3 c4 c5 cz cl;try simp only[Act.put,sI,sZ,sS]
    refine az0 _ gF rF (fun K hK=>?_);go_simp;refine (HWr.out _ _ _ F5w hb).mono ?_;rintro _ W6 ⟨p6,s6,err,rfl,F6,hr6⟩;have F6w:FrB B W W6:=FrB.trans (FrB.none F5w) F6;have hD6:=HDr.out.frB F6w;try go_simp
    refine hK _ _ (HS.out _ F6w) ?_;clear hK K;iterate 5
     try simp only[Act.put,sI,sZ,sS]
     refine ay0 _ ?_ gF rF ?_ ?_;rotate_left
     ·intro V hV;obtain⟨s1,s2,s3⟩:=hV;go_simp;try with_reducible rfl
    try simp only[Act.put,sI,sZ,sS]
    obtain⟨u3,u7,-⟩:=HS.out _ F6w;obtain⟨c0',c1,c2,c3,c4,c5,cz,cl⟩:=aU0 hD6;refine az0 _ gF rF (fun K hK=>?_);go_simp;refine hK _ _ (by simp[go_sem, *]) ?_;clear hK K;try simp only[Act.put,sI,sZ,sS]
    refine ay0 _ ?_ gF rF ?_ ?_;rotate_left
    ·intro V hV;obtain⟨s1,s2,s3⟩:=hV;go_simp;try with_reducible rfl
    try simp only[Act.put,sI,sZ,sS]
    refine ar0 ?_;refine NoPanic.normal ?_;obtain⟨i1,i2,i3,i4,i5,i6,i7,i8,i9,i10,i11⟩:=HI.out;have hF06:FrB B w W6:=FrB.trans i1 F6w;have hb6:=F6w.heap i2 dC;have hK6:=(F6w.keeps (B0:=W0.heap.size) (fun r=>by have:=hlt r;omega)).same D _ hDD i10 rfl;have z0:=coh hb6 0;have zz:=foh hb6 0;have zl:=loh hb6;simp at z0;have hne3:¬ bd=w.heap.size+1+1:=oM;have hne3':¬ w.heap.size+1+1=bd:=oM;rcases hr6 with⟨rfl,m',rfl,rfl,hm',hS6⟩|⟨rfl,ha,hDn⟩
    ·have hE:=sU0 i4 i3.apart i6 i7 i11 i8 hm' rfl;have H9:=hi2 hE (aI hF06 (aI hD6 (aI hb6 (aI hK6 (aI hS6 (aI i5 i9))))));clear hE hF06 hD6 hb6 hK6 hS6 hm' i1 i2 i3 i4 i5 i6 i7 i8 i9 i10 i11 F6w F6 F5w F5 hb c0' c1 c2 c3 c4 c5 cz cl u3 u7;gi_wp2
     obtain⟨hE,hF06,hD6,hb6,hK6,hS6,hlike,hxl⟩:=H9.out;obtain⟨f1,f2,-⟩:=cN0 (u:=.int .i64 m') (v:=.int .i64 y'.gen) (e:=.int .i64 0) hF06 hD6 hb6 hK6 oM oM hbdl;exact iY0 f1 f2 oM (sT0 hF06 hD6 hb6 hK6 oM oM hbdl hbdp hlt hS6 oM oM hlike.2.1 ⟨hE.1,hE.2.1,hE.2.2.1,hE.2.2.2.1,hlike.1.trans hE.2.2.2.2.1,hE.2.2.2.2.2.1.trans hlike.2.1,hE.2.2.2.2.2.2.trans hlike.2.2⟩) rfl
    ·have H9:=hi2 ha (aI hF06 (aI hD6 (aI hb6 (aI hK6 (aI hDn (aI i5 i9))))));clear ha hF06 hD6 hb6 hK6 hDn i1 i2 i3 i4 i5 i6 i7 i8 i9 i10 i11 F6w F6 F5w F5 hb c0' c1 c2 c3 c4 c5 cz cl u3 u7;gi_wp2
     obtain⟨ha,hF06,hD6,hb6,hK6,hDn,hlike,hxl⟩:=H9.out;obtain⟨f1,f2,-⟩:=cN0 (u:=.int .i64 p6) (v:=.int .i64 s6) (e:=.int .i64 4) hF06 hD6 hb6 hK6 oM oM hbdl;exact iY0 f1 f2 oM (fG0 hF06 hD6 hb6 hK6 oM oM hbdl hlt (aX0 hDn hlike.1) oM ha) rfl
  case stop =>
   rintro D cc pre W hDD hSp ⟨⟨rfl,hpl⟩,hX⟩ hK;have HX2:=hi2 hX hK;clear hX hK;gi_wp2
   obtain⟨hX,hK⟩:=HX2.out;have FP:Fr (fun b=>b=D) W (W.putObj D (.deferred none)):=(Fr.refl (fun b=>b=D) _).putObj (fun _=>rfl) _;have nc:∀ cs t f,W.heap[D]?≠some (.cells cs t f):=fun cs t f e=>by rw[hK] at e;cases e
   have l1:=hlt .d;have l2:=hlt .bf;have l3:=hlt .bq;simp only[Blk.at_] at l1 l2 l3;exact iY0 hX.b6 hK oM ⟨4,rfl,FrX.of (rx0 hX.fr FP oM),.inr ⟨rfl,hX.arm,(hX.ex.frK FP ⟨oM,oM,oM⟩ nc).mono oM⟩⟩ rfl
 ·have F04:FrB B w W4:=FrB.trans (FrB.none HF3.out) F4;have hb6:=F4.heap ((HF2.out.drewN m).heap H1.out.1 id) dC;have z0:=coh hb6 0;have zz:=foh hb6 0;have zl:=loh hb6;simp at z0;have HX:=hi2 ha (aI hDn (aI F04 hb6));clear ha hDn F4 F04 hb6 hx3;gi_wp2
  have hF5:Fr (fun b=>b=w.heap.size+1+1) W4 (W4.setCell ⟨w.heap.size+1+1,0,none⟩ (.int .i64 4)):=Fr.setCell (S:=fun b=>b=w.heap.size+1+1) (Fr.refl _ _) (fun _=>rfl) _;refine⟨.int .i64 4,by simp[results,Tryz.results50,go_sem, *],4,rfl,FrX.of (Fr.alloc (rx0 HX.out.2.2.1 hF5 oM) _),.inr ⟨rfl,HX.out.1,?_⟩⟩;exact ((HX.out.2.1.frL hF5 HX.out.2.2.2 dC).fr0 ((Fr.refl _ _).alloc _)).mono oM
end
section
open Go.RowKit Go.Sg Go.Sg.Bits Go.Sg.Clk CP SF
abbrev FrI (base:Nat)(w w':World):Prop:=Fr (fun b=>base<=b/\∀ c t f,w.heap[b]?=some (.cells c t f)->t ∈ 227 :: 209 :: em0) w w'
variable {b base bd bx most s sl:Nat}{w w':World}{sp:Int}
theorem FrI.trans {w1 w2:World}(h:FrI base w w1)(k:FrI base w1 w2):FrI base w w2:=by
 refine Fr.trans h k fun b hb hs=>?_
 rcases Classical.em (base<=b/\∀ c t f,w.heap[b]?=some (.cells c t f)->t ∈ 227 :: 209 :: em0) with hm|hm
 ·exact hm
 ·have e:=Fr.block h b hb hm;exact⟨hs.1,fun c t f hc=>hs.2 c t f (e.trans hc)⟩
theorem FrI.heap (h:FrI base w w'){c:Array Value}{t:TypeId}{f:Nat × Nat}(hb:w.heap[b]?=some (.cells c t f))(ht:t ∉ 227 :: 209 :: em0):w'.heap[b]?=some (.cells c t f):=
 Fr.heap h hb fun hs=>ht (hs.2 c t f hb)
theorem FrI.none (F:Fq w w'):FrI base w w':=Fr.mono F fun _ _ h=>h.elim
variable {B:Blk}
theorem dd0 (h:FrB B w w'):FrI B.base w w':=Fr.mono h fun b _ hs=>⟨hs.1,fun c t f hc=>lM9 _ (lM9 _ (hs.2.1 c t f hc))⟩
theorem FrI.fr0 {w0:World}(h:FrI base w w')(hb:w0.heap.size<=base)(F:Fq w0 w):Fq w0 w':=F.trans h fun b hb' hs=>by omega
theorem FrI.own {e size n:Nat}{v:Value}{xs:List Value}(h:w.ownsRow b e size v n xs)(he:e ∉ 227 :: 209 :: em0)(F:FrI base w w'):w'.ownsRow b e size v n xs:=
 oRf h F fun g c hg hs=>he (hs.2 c e _ hg)
theorem rp0 {X:Nat->Prop}(h:cn0 w bx s bd sl most sp)(F:FrX B X w w')(hX:¬ X bx):cn0 w' bx s bd sl most sp:=
 Fr.heap F h fun hs=>by
  rcases hs with hs|hs
  ·exact absurd (hs.2.1 _ _ _ h) dC
  ·exact hX hs
theorem bA0 (h:cn0 w bx s bd sl most sp)(F:FrB B w w'):cn0 w' bx s bd sl most sp:=F.heap h dC
abbrev Bp:=Rf × List Int
abbrev bpg (L:List Bp):List Nat:=L.map fun q=>q.1.1.toNat
def yo0 (ro:Bool)(y:Cs)(own:List Nat)(M:Nat):Prop:=own.Nodup/\(ro=false->Live y own M)
theorem _root_.Go.Proofs.YtgdhaaokolfdoaaGreatDoor.Live.r {y:Cs}{own:List Nat}{M:Nat}(h:Live y own M)(ro:Bool):yo0 ro y own M:=⟨h.nd,fun _=>h⟩
structure aD0 (w:World)(B:Blk)(bx bd:Nat)(y:Cs)(P:aC0)(a:Bool)(N:Nat)(x:aL0)(au0 slots:List Rf)(L:List Bp)(sp:Int):Prop where
 st:aw0 w B y P a N
 idx:cn0 w bx B.s bd 3 3 sp
 dir:aj0 w bd B.s x
 c:fC0 y x au0 slots
 live:yo0 P.ro y (pgs x.rp au0++bpg L) 11
 bk:∀ q ∈ L,aF0 q.1/\y.cont q.1.1=some (q.1.2.toNat,q.2)
 len:L.length<=10
 plan:y.plan=aE0
 pages:y.pages=108
 room:y.room=77
 places:y.places=8
 per:x.per=6/\x.most=3
 base:B.base<=bd/\B.base<=bx
section
variable {w w':World}{B:Blk}{bx bd:Nat}{y:Cs}{P:aC0}{a:Bool}{N N':Nat}{x:aL0}{au0 slots:List Rf}{L:List Bp}{sp:Int}
theorem aD0.frB (h:aD0 w B bx bd y P a N x au0 slots L sp)(F:FrB B w w')(hS:aw0 w' B y P a N'):aD0 w' B bx bd y P a N' x au0 slots L sp:=
 { h with st:=hS,idx:=bA0 h.idx F,dir:=h.dir.frB F }
theorem aD0.fr0 (h:aD0 w B bx bd y P a N x au0 slots L sp)(F:Fq w w'):aD0 w' B bx bd y P a N x au0 slots L sp:=
 { h with st:=h.st.fr0 F,idx:=F.heap h.idx id,dir:=F.heap h.dir id }
theorem aD0.mono (h:aD0 w B bx bd y P a N x au0 slots L sp)(hN:N<=N')(h9:N'<=90000):aD0 w B bx bd y P a N' x au0 slots L sp:={ h with st:=h.st.mono hN h9 }
theorem kx0 {x:aL0}(h:x.per=6/\x.most=3)(hd:x.depth<=x.most):x.leaves<=2/\x.slots<=8:=by
 have h5:x.depth<=3:=oM
 have h1:2^x.depth<=2^3:=lc9 dC h5;unfold aL0.leaves aL0.slots;rw[h.1];omega
theorem aD0.small (h:aD0 w B bx bd y P a N x au0 slots L sp):x.leaves<=2/\x.slots<=8/\x.depth<=3:=by
 have h1:=kx0 h.per h.c.z.most.1;have h2:=h.c.z.most.1;have h3:=h.per.2;exact⟨h1.1,h1.2,oM⟩
theorem aD0.kr0 (h:aD0 w B bx bd y P a N x au0 slots L sp):(pgs x.rp au0++bpg L).length<=13:=by
 have h1:=h.small;have h2:=h.c.tlen;have h3:=h.len;simp only[pgs,bpg,lA,lC,ln9];omega
end
section
variable {w w':World}{B:Blk}{bx bd:Nat}{y:Cs}{P:aQ0}{a:Bool}{N N':Nat}{x:aL0}{au0 slots:List Rf}{L:List Bp}{sp:Int}
theorem aD0.lv (h:aD0 w B bx bd y P a N x au0 slots L sp):Live y (pgs x.rp au0++bpg L) 11:=h.live.2 rfl
theorem aD0.free (h:aD0 w B bx bd y P a N x au0 slots L sp):∃ j,j<y.pages/\y.taken j=false:=h.lv.free (by have:=h.kr0;rw[h.pages];omega)
theorem fC0.keeps {y y':Cs}{x:aL0}{au0 slots:List Rf}(h:fC0 y x au0 slots)(hz:y'.room=y.room)(h0:y'.cont x.rp=y.cont x.rp)(h1:∀ r ∈ au0,y'.cont r.1=y.cont r.1):fC0 y' x au0 slots:=
 ⟨⟨h.z.most,by rw[hz];exact h.z.per,fun d hd=>by rw[hz];exact h.z.fits d hd,by rw[hz];exact h.z.room⟩,h.slen,h.tlen,⟨h.leaf.sr,h.leaf.tr,fun i r hi=>by rw[h1 r (gM hi)];exact h.leaf.at_ i r hi⟩,h.rr,by rw[h0];exact h.root⟩
def zY0 (B:Blk)(bx bd:Nat)(y:Cs)(P:aC0)(a:Bool)(N:Nat)(depth:Nat)(slots:List Rf)(L:List Bp)(sp:Int)(w:World)(e:Ending)(w':World):Prop:=
 ∃ err,e = .returned (.int .i64 err)/\FrX B (fun b=>b=bd) w w'/\((err=0/\∃ y' x' tops',aD0 w' B bx bd y' P a N x' tops' slots L sp/\x'.depth=depth/\(Like y y'/\y'.gen=y.gen/\y'.dead=y.dead))\/(err=4/\a=true/\aP0 w' B y P N))
theorem aD0.rQ0 (h:aD0 w B bx bd y P a N x au0 slots L sp){x1:aL0}{sl':List Rf}{e:Ending}(hx:x1.per=x.per/\x1.most=x.most)(hu:yw0 B bd x1 y P a N' (bpg L) 11 False y.cont sl' w e w'):zY0 B bx bd y P a N' x1.depth sl' L sp w e w':=by
 obtain⟨err,rfl,F,⟨rfl,y',tk,m,e1,e2,e3,e4,e5,e6,e7⟩|⟨rfl,ha,hd⟩⟩:=hu
 ·refine⟨0,rfl,F,.inl ⟨rfl,y',_,tk,⟨e2,rp0 h.idx F (fun e=>?_),e1,e3,e4.r _,fun q hq=>⟨(h.bk q hq).1,?_⟩,h.len,e7.1.plan.trans h.plan,e7.1.pages.trans h.pages,e7.1.room.trans h.room,e7.1.places.trans h.places,⟨hx.1.trans h.per.1,hx.2.trans h.per.2⟩,h.base⟩,rfl,e7⟩⟩
  ·have h1:=h.dir;have h2:=h.idx;unfold aj0 at h1;unfold cn0 at h2;rw[e,h1] at h2;cases h2
  ·have hr:=(h.bk q hq).1;have:=e6 q.1.1.toNat (ld9.2 ⟨q,hq,rfl⟩);rw[lL9 hr.1] at this;rw[this];exact (h.bk q hq).2
 ·exact⟨4,rfl,F,.inr ⟨rfl,ha,hd⟩⟩
theorem aD0.set (h:aD0 w B bx bd y P a N x au0 slots L sp){n c:Nat}{sa:Option Addr}{l:List Int}{r:Rf}(hl:SlI w sa n c l)(hlF:∀ W,FrB B w W->SlI W sa n c l)(hn:n<=8)(hany:l.any (iM0 x.slots)=false)(hr:aF0 r)(hN:N+19<=90000) :
  Calls Tryz.prog 50 #[cR0 bd,.slice sa n c,fT0 r.1 r.2] w (zY0 B bx bd y P a (N+19) x.depth (bQ0 slots (l.map Int.toNat) r) L sp w):=by
 have hs:=h.small;have ho:=h.kr0;have hlen:=h.len;refine (zj0 (K:=False) (c0:=y.cont) (M:=11) (rest:=bpg L) h.st h.dir h.c (by rw[h.pages];omega) h.lv (fun h=>h.elim) (fun _ _=>rfl) (by rw[h.pages];simp only[bpg,ln9];omega) hl hlF oM hany hr oM).mono ?_;rintro e w' hu;obtain⟨err,h1,h2,h3⟩:=h.rQ0 ⟨rfl,rfl⟩ hu;refine⟨err,h1,h2,?_⟩;rcases h3 with⟨h3,y',x',t',h4,h5⟩|⟨h3,ha,hd⟩
 ·exact .inl ⟨h3,y',x',t',h4.mono oM hN,h5⟩
 ·exact .inr ⟨h3,ha,hd.mono oM⟩
theorem aD0.double (h:aD0 w B bx bd y P a N x au0 slots L sp)(hd:x.depth<3)(hN:N+100<=90000) :
  Calls Tryz.prog 49 #[cR0 bd] w (zY0 B bx bd y P a (N+100) (x.depth+1) (gv0 slots) L sp w):=by
 have hm:=h.per.2;have hs:=kx0 (x:={ x with depth:=x.depth+1 }) h.per (by show x.depth+1<=x.most;omega);have hlen:=h.len;refine (qM0 (K:=False) (c0:=y.cont) (M:=11) (rest:=bpg L) h.st h.dir h.c oM (by rw[h.pages];omega) h.lv (fun h=>h.elim) (fun _ _=>rfl) (by rw[h.pages];simp only[bpg,ln9];omega) hN).mono ?_;rintro e w' hu;exact h.rQ0 (x1:={ x with depth:=x.depth+1 }) ⟨rfl,rfl⟩ hu
variable {j m:Nat}{bs:List Int}
theorem aD0.kS0 (h : aD0 w B bx bd y P a N x au0 slots L sp) (ht : br0 y.taken y.pages y.hand m) (F : FrB B w w') (hS : aw0 w' B (y.new m bs) P a N') (hL : L.length < 10) :
    aD0 w' B bx bd (y.new m bs) P a N' x au0 slots (L++[(((m:Int),(y.gen:Int)),bs)]) sp:=by
  have hno:m ∉ pgs x.rp au0++bpg L:=fun hm=>by have:=(h.lv.tk m hm).1;rw[ht.2.1] at this;cases this
  have hne:∀ k ∈ pgs x.rp au0++bpg L,((y.new m bs).cont (k:Int))=y.cont k:=fun k hk=>by
    show fE0 y.cont m (some (y.gen,bs)) k=_
    rw [ee0 (fun he => hno (by have : k = m := by omega
                               rw[<- this];exact hk))]
  have hg:=bT0 h.st;have hm:=ht.1;rw[h.pages] at hm;refine⟨hS,bA0 h.idx F,h.dir.frB F,h.c.keeps rfl ?_ (fun r hr=>?_),?_,fun q hq=>?_,by simp;omega,h.plan,h.pages,h.room,h.places,h.per,h.base⟩
  · have:=hne x.rp.toNat (by simp[pgs]);rwa [lL9 h.c.rr.1] at this
  · have:=hne r.1.toNat (by simp only[pgs,lb9,lA9,ld9];exact .inl (.inr ⟨r,hr,rfl⟩));rwa [lL9 (h.c.leaf.tr r hr).1] at this
  · have:=h.lv.new (bs:=bs) h.st.apart ht;rw[show pgs x.rp au0++bpg L++[m]=pgs x.rp au0++bpg (L++[(((m:Int),(y.gen:Int)),bs)]) by simp[bpg]] at this;exact this.r _
  · rcases lb9.1 hq with hq|hq
    · have hr:=(h.bk q hq).1;have:=hne q.1.1.toNat (lu9 _ (ld9.2 ⟨q,hq,rfl⟩));rw[lL9 hr.1] at this;exact⟨hr,by rw[this];exact (h.bk q hq).2⟩
    · simp at hq;subst hq;exact⟨cU0 oM hg,by simp[Cs.new,fE0]⟩
variable {q:Bp}
theorem aD0.page (h:aD0 w B bx bd y P a N x au0 slots L sp)(hj:L[j]?=some q):(pgs x.rp au0++bpg L)[(pgs x.rp au0).length+j]?=some q.1.1.toNat:=by
 rw[lk9 oM,mq9];simp[bpg,hj]
theorem aD0.qj0 (h:aD0 w B bx bd y P a N x au0 slots L sp)(hj:L[j]?=some q)(hm:dE0 y q.1.1.toNat m)(F:FrB B w w')(hS:aw0 w' B (y.put q.1.1.toNat m bs) P a N') :
  aD0 w' B bx bd (y.put q.1.1.toNat m bs) P a N' x au0 slots (L.set j (((m:Int),(y.gen:Int)),bs)) sp:=by
 have hmi:=h.page hj;have hmem:=gM hmi;have hjl:=(gI.1 hj).1;have hl:=(dJ0 y q.1.1.toNat m bs);have hne:∀ k ∈ pgs x.rp au0++bpg L,k≠q.1.1.toNat->(y.put q.1.1.toNat m bs).cont (k:Int)=y.cont k:=fun k hk hkn=>dT0 h.lv hm hk hkn bs
 have hnd:=mg9.1 h.lv.nd;have hqm:q.1.1.toNat ∈ bpg L:=ld9.2 ⟨q,gM hj,rfl⟩;have hg:=bT0 h.st;have hlt:=hm.lt (h.lv.lt _ hmem);rw[h.pages] at hlt;refine⟨hS,bA0 h.idx F,h.dir.frB F,h.c.keeps hl.1.room ?_ (fun r hr=>?_),?_,fun z hz=>?_,by simp;exact h.len,hl.1.plan.trans h.plan,hl.1.pages.trans h.pages,hl.1.room.trans h.room,hl.1.places.trans h.places,h.per,h.base⟩
 ·have hp:x.rp.toNat ∈ pgs x.rp au0:=by simp[pgs]
  have:=hne x.rp.toNat (lN9 _ hp) (hnd.2.2 _ hp _ hqm);rwa [lL9 h.c.rr.1] at this
 ·have hp:r.1.toNat ∈ pgs x.rp au0:=by simp only[pgs,lA9,ld9];exact .inr ⟨r,hr,rfl⟩
  have:=hne r.1.toNat (lN9 _ hp) (hnd.2.2 _ hp _ hqm);rwa [lL9 (h.c.leaf.tr r hr).1] at this
 ·have hL:=h.lv.put (bs:=bs) h.st.apart hmem hm;rw[dK0 h.lv.nd hmi,List.set_append_right _ _ oM,mq9] at hL;rw[show (bpg L).set j m=bpg (L.set j (((m:Int),(y.gen:Int)),bs)) by simp[bpg,List.map_set]] at hL;exact hL.r _
 ·obtain⟨i,hi⟩:=lC9.1 hz;rw[lU9] at hi;by_cases e:j=i
  ·subst e;rw[if_pos rfl,if_pos hjl] at hi;cases hi;exact⟨cU0 oM hg,by rw[hm.cont];simp[fE0]⟩
  ·rw[if_neg e] at hi;have hzL:=gM hi;have hr:=(h.bk z hzL).1;have hne':z.1.1.toNat≠q.1.1.toNat:=fun he=>by
    have h1:=h.page hi;rw[he] at h1;have:=(mG9 (gI.1 h1).1 h.lv.nd).1 (h1.trans hmi.symm);omega
   have:=hne z.1.1.toNat (lu9 _ (ld9.2 ⟨z,hzL,rfl⟩)) hne';rw[lL9 hr.1] at this;exact⟨hr,by rw[this];exact (h.bk z hzL).2⟩
