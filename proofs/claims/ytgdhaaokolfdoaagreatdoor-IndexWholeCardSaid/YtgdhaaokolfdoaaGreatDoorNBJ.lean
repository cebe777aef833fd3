/- A pack of texts. Conditions: those that each names. -/
import Derived.Test.YtgdhaaokolfdoaaGreatDoorNBI
set_option maxHeartbeats 16000000
set_option maxRecDepth 100000
set_option linter.all false
namespace Go.Proofs.YtgdhaaokolfdoaaGreatDoor
open Go.RowKit Go.Sg CP SF Tryz
variable {es:List Bt}{h:Nat}{o:Int}
def wC0 {w:w9}{a:Option Addr}{c:Nat}(hE:t8 w 0 (sL a es.length c) es)(hl:es.length<=60000)(d p:Nat)(hd:d<=20)(hp:p<=65535)(hh:∀ x ∈ es,x.hash<18446744073709551616){d1 q0 q1:Nat}(h1:d+1=d1)(h2:2*p=q0)(h3:2*p+1=q1) :
  cP 211 #[gH d p (sL a es.length c),iI 0] w (wI (d1:Int) (q0:Int) (es.filter (bN d q0)) w) /\
  cP 211 #[gH d p (sL a es.length c),iI 1] w (wI (d1:Int) (q1:Int) (es.filter (bN d q1)) w):=by
 subst h1 h2 h3;exact⟨mX0 hE (nT hl dC) d p 0 hd hp dC hh,mX0 hE (nT hl dC) d p 1 hd hp dC hh⟩
def qv0 (es:List Bt):∀ k,0<k->k<=es.length->∃ j,jw es k=some j:=by
 intro k;induction k with
 | zero=>intro h;omega
 | succ k ih =>
  intro _ hk;obtain⟨x,hx⟩:∃ x,es[k]?=some x:=⟨_,gE oM⟩
  simp only[jw,hx];cases hb:jw es k with
  | none=>exact⟨k,rfl⟩
  | some j =>
   obtain⟨y,hy⟩:∃ y,es[j]?=some y:=⟨_,gE (OU es k j hb).2⟩
   simp only[hy];split
   .exact⟨k,rfl⟩
   .exact⟨j,rfl⟩
def RwR (r:xV0)(w:w9)(e:Ending)(w':w9):Prop:=Ex r.g 3 3 r.sp r.lost r.l w e w'
abbrev Bs (w1 Vt:w9)(s d p:Nat)(ta:Option Addr)(tc:Nat)(ef:List Bt):Prop:=Fq w1 Vt/\Vt.heap[s]?=some (.cells #[iI d,iI p,sL ta ef.length tc] 220)/\t8 Vt 0 (sL ta ef.length tc) ef/\m9 ef/\ef.length<=60000
def jX0 (hr:cy es h 3=true):aL es h o=es:=by unfold aL;rw[if_pos hr]
def qT0 (h1:hasB es h=false)(h2:¬ es.length<3):aL es h o=es.filter (U4 o):=by unfold aL cy;rw[h1,if_neg (by simp[h2])]
def wF0 (y:Bt)(oldest:Int)(hy:y.hash<18446744073709551616):∀ (nf:Nat) (w:w9) (v:Value) (l:Lb) (_:OwnB w 0 v l) (_:l.length+nf<=50000) (g:Nat) (_:g+nf<=1000) (sp:Int) (_:0<=sp) (_:sp+nf<=100000) (_:∀ b ∈ l,Hq b) (i:Nat) (b:Nat × Nat × List Bt) (_:l.findIdx? (R9 y.hash)=some i) (_:l[i]?=some b) (_:3<b.1+nf),
  cP 146 #[ai g 3 3 v sp,E8 y,iI oldest] w (RwR (jk nf g l sp y oldest) w):=by
 intro nf;induction nf with
 | zero=>intro w v l _ _ g _ sp _ _ hd i b _ hb h3;have:=(hd b (gM hb)).1;omega
 | succ nf ih =>
 intro w v l hB hl g hg sp pV hsp hd i b hi hb h3;have HIH:=hid ih;clear ih;have kQ:=hid fun V (F:Fq w V)=>Yv (hB.fr F) oM g 3 3 sp y.hash hy (fun b hb=>nT (hd b hb).1 dC) hi;have yN:=hid fun (g':Int) (sp':Int) V (F:Fq w V) (v2:Value) (l2:Lb) (h2:OwnB V 0 v2 l2) (A8:l2.length<=2)=>pS0 (hB.fr F) h2 oM A8 g' 3 3 sp' (getD_some hb);have yK:=hid (Yc (n:=nf) (g:=g) (sp:=sp) (o:=oldest) hi hb);obtain⟨P5,mK,J6,U1,Pn⟩:=hd b (gM hb);have wy:=hi2 hd (aI hi hb);have JY:R9 y.hash b=true:=by
  rw[ox] at hi;obtain⟨q1,q2,-⟩:=hi;rw[gE q1] at hb;cases hb;exact q2
 have RZ:=hid JY;obtain⟨xs,rfl,hR,hE⟩:=hB;obtain⟨va,vc,rfl,-,-,-,-⟩:=A2 hR;obtain⟨x,hx,rfl⟩:=QQ hb;replace yK:=hid (show jk (nf+1) g (List.map Rb.key xs) sp y oldest =
  if cy (aL x.es y.hash oldest) y.hash 3=true then ⟨g,rep (List.map Rb.key xs) i [(x.d,x.p,r5 (aL x.es y.hash oldest) y)],sp,false⟩
  else if x.d<3 then jk nf (if x.d=g then g+1 else g) (rep (List.map Rb.key xs) i (halves x.key (aL x.es y.hash oldest))) (sp+1) y oldest
  else ⟨g,rep (List.map Rb.key xs) i [(x.d,x.p,r5 ((aL x.es y.hash oldest).filter (I8 (DG (aL x.es y.hash oldest)))) y)],sp,true⟩ from yK.o)
 replace P5:x.d<=3:=P5
 replace mK:x.p<2^x.d:=mK
 replace J6:x.es.length<=60000:=J6
 replace U1:m9 x.es:=U1
 replace Pn:∀ e ∈ x.es,e.hash<18446744073709551616:=Pn
 have hp8:x.p<=65535:=by
  have:2^x.d<=2^3:=aZ dC P5;omega
 replace h3:3<x.d+(nf+1):=h3
 have T4:=getD_some hx;have zo:=hE x (gM hx);obtain⟨gb,rfl,bz,c0,c1,c2⟩:=LL hR hx;obtain⟨n,hn⟩:=eX xs.length
 rw[Z8] at hl;rw[hn] at hR T4 hl kQ yN ⊢;obtain⟨w1,I0⟩:=eX (((w.alloc (.cells #[iI g,iI 3,iI 3,sL gb n vc,iI sp] 137)).alloc (.cells #[iU y.hash,iI y.rg,iI y.at_,iI y.sz] 110)).alloc (.cells #[iI 0,iI 0,iI 0,sL none 0 0,iI 0] 137))
 obtain⟨z,hz⟩:=eX w.heap.size
 obtain⟨b0,b1,b2,F1⟩:=nC I0;rw[hz] at b0 b1 b2;have E3:w1.heap.size=z+3:=by rw[<- I0,<- hz];simp
 have HC:=hid fun V (F:Fq w1 V)=>aI (cells5 (F.heap b0 id)) (aI (D8 (F.heap b1 id)) (aI (((F1.trans F nI).cell (p:=⟨gb,i*3,none⟩) bz id).trans c0) (aI (((F1.trans F nI).cell (p:=⟨gb,i*3+1,none⟩) bz id).trans c1) (aI (((F1.trans F nI).cell (p:=⟨gb,i*3+2,none⟩) bz id).trans c2) (E4 bz (F1.trans F nI).size)))));have uG:=hid fun V (F:Fq w1 V)=>oN zo (F1.trans F nI);have HB:=hi2 b0 (aI b1 b2);have HF:=hid F1;have HW:=hid I0;have HZ:=hid hz;have HS:=hid E3;have Er:=hi2 mK (aI U1 Pn);have xy:(i:Int)<(n:Int):=oM
 have HN:=hi2 hn hx;obtain⟨⟨x0,x1,x2,x3,x4,xz,xl⟩,⟨t0,t1,t2,t3,tz,tl⟩,e0,e1,e2,eg⟩:=HC.o _ fR;clear hE hR zo hx hn I0 F1 b0 b1 b2 hz hd c0 c1 c2 bz hb hi E3 mK U1 Pn JY;go_enter func146,ntmps146;go_upto_region 1 with fail
 rw[HW];try simp only[HZ.o]
 go_wp2_with fail
 (with_reducible refine (kQ.o _ HF.o).mono ?_)
 rintro _ V1 ⟨rfl,F1⟩;have H1:=hid F1;clear x0 x1 x2 x3 x4 xz xl t0 t1 t2 t3 tz tl e0 e1 e2 eg;obtain⟨⟨x0,x1,x2,x3,x4,xz,xl⟩,⟨t0,t1,t2,t3,tz,tl⟩,e0,e1,e2,eg⟩:=HC.o _ F1;clear F1;go_upto_region 3 with fail
 obtain⟨V2,K5⟩:=eX (V1.alloc (.cells #[iI x.d,iI x.p,sL x.a x.es.length x.c] 220))
 obtain⟨s,hs⟩:=eX V1.heap.size
 have bs:V2.heap[s]?=some (.cells #[iI x.d,iI x.p,sL x.a x.es.length x.c] 220):=by rw[<- K5,<- hs];exact han _ _
 have F2:Fq w1 V2:=by rw[<- K5];exact H1.alloc _
 have X3:z+3<=s:=by rw[<- hs,<- HS];exact H1.size
 rw[K5];try simp only[hs]
 have Bg:=hid (OM (d:=x.d) (p:=x.p) (uG _ F2) (nT J6 dC) y.hash);have H2:=hi2 F2 bs;clear x0 x1 x2 x3 x4 xz xl t0 t1 t2 t3 tz tl e0 e1 e2 eg K5 hs;obtain⟨⟨x0,x1,x2,x3,x4,xz,xl⟩,⟨t0,t1,t2,t3,tz,tl⟩,-⟩:=HC.o _ F2;obtain⟨s0,s1,s2,sz,sl⟩:=cells3 bs;clear F2 bs;go_wp2_with (go_at_call 206;(with_reducible refine Bg.o.mono ?_))
 rintro _ V3 ⟨rfl,F3⟩;have H3:=hi2 (H2.1.trans F3 nI) (F3.heap H2.2 id);clear F3 x0 x1 x2 x3 x4 xz xl t0 t1 t2 t3 tz tl s0 s1 s2 sz sl;obtain⟨⟨x0,x1,x2,x3,x4,xz,xl⟩,⟨t0,t1,t2,t3,tz,tl⟩,-⟩:=HC.o _ H3.1;obtain⟨s0,s1,s2,sz,sl⟩:=cells3 H3.2;have lD:decide (mx x.es y.hash≥0)=hasB x.es y.hash:=by rw[xJ0,OR]
 rcases hhb:hasB x.es y.hash with _|_
 rotate_left;focus
  rw[hhb] at lD;go_upto_region 4 with fail
  obtain⟨ta,tc,eT,Vt,nQ,HT,mg⟩:∃ ta tc eT Vt,V3=Vt/\Hid (Bs w1 Vt s x.d x.p ta tc eT)/\Hid (jk (nf+1) g (List.map Rb.key xs) sp y oldest=⟨g,rep (List.map Rb.key xs) i [(x.d,x.p,r5 eT y)],sp,false⟩):=⟨x.a,x.c,x.es,V3,rfl,hid ⟨H3.1,H3.2,uG _ H3.1,Er.2.1,J6⟩,hid (by
   have hr:cy x.es y.hash 3=true:=by unfold cy;rw[hhb];rfl
   rw[yK,jX0 hr,if_pos hr])⟩
  rw[nQ];clear hhb;clear nQ lD x0 x1 x2 x3 x4 xz xl t0 t1 t2 t3 tz tl s0 s1 s2 sz sl
 rotate_left;rw[hhb] at lD;rcases jL x.es.length 3 with hm|hm
 focus
  have Ko:decide ((x.es.length:Int)<3)=true:=by simp;omega
  go_upto_region 4 with fail
  obtain⟨ta,tc,eT,Vt,nQ,HT,mg⟩:∃ ta tc eT Vt,V3=Vt/\Hid (Bs w1 Vt s x.d x.p ta tc eT)/\Hid (jk (nf+1) g (List.map Rb.key xs) sp y oldest=⟨g,rep (List.map Rb.key xs) i [(x.d,x.p,r5 eT y)],sp,false⟩):=⟨x.a,x.c,x.es,V3,rfl,hid ⟨H3.1,H3.2,uG _ H3.1,Er.2.1,J6⟩,hid (by
   have hr:cy x.es y.hash 3=true:=by unfold cy;rw[decide_eq_true hm,Bool.or_true]
   rw[yK,jX0 hr,if_pos hr])⟩
  rw[nQ];clear nQ hhb hm Ko lD x0 x1 x2 x3 x4 xz xl t0 t1 t2 t3 tz tl s0 s1 s2 sz sl
 rotate_left;have Ko:decide ((x.es.length:Int)<3)=false:=by simp;omega
 go_upto_region 5 with fail
 have wA:=hid (qT0 (o:=oldest) hhb (show ¬ x.es.length<3 by omega));have GK:=hid (wG0 (uG _ H3.1) (nT J6 dC) x.d x.p oldest);have Nj:=hid hhb;clear hhb hm lD;go_wp2_with (go_at_call 210;(with_reducible refine GK.o.mono ?_))
 rintro _ V4 ⟨a4,c4,rfl,af,F4⟩;obtain⟨ef,Ff⟩:=eX (x.es.filter (U4 oldest))
 have hes:m9 ef:=by rw[<- Ff];exact Ia Er.2.1 _
 have heh:∀ e ∈ ef,e.hash<18446744073709551616:=by rw[<- Ff];exact fun e he=>Er.2.2 e (rn.1 he).1
 have Pt:ef.length<=60000:=by rw[<- Ff];exact nT (mY _ _) J6
 have gm:hasB ef y.hash=false:=by rw[<- Ff];exact nS0 Nj.o _
 rw[Ff] at af wA ⊢;have qr:=H3.1.trans F4 nI;have b4:=F4.heap H3.2 id;have H4:=hi2 qr (aI b4 af);clear F4 af Ff x0 x1 x2 x3 x4 xz xl t0 t1 t2 t3 tz tl s0 s1 s2 sz sl;obtain⟨⟨x0,x1,x2,x3,x4,xz,xl⟩,⟨t0,t1,t2,t3,tz,tl⟩,-⟩:=HC.o _ qr;obtain⟨s0,s1,s2,sz,sl⟩:=cells3 b4;clear qr b4;go_upto_region 6 with fail
 obtain⟨V5,M5⟩:=eX (((V4.setCell s (iI x.d)).setCell (aA s 1) (iI x.p)).setCell (aA s 2) (sL a4 ef.length c4))
 rw[M5];have b5:V5.heap[s]?=some (.cells #[iI x.d,iI x.p,sL a4 ef.length c4] 220):=by rw[<- M5,hsc _ _ _ _ (hsc _ _ _ _ (hsc _ _ _ _ H4.2.1))];rfl
 have bg:Fr (fun b=>b=s) V4 V5:=by rw[<- M5];with_reducible (repeat (first|exact fR|refine Fr.setCell ?_ (fun _=>by simp) _))
 have F5:Fq w1 V5:=H4.1.trans bg (fun b hb e=>by have:=HS.o;omega);have fH:t8 V5 0 (sL a4 ef.length c4) ef:=K3 (ao H4.2.2 (C3 _)) bg (fun g' c' hg e=>by rw[e,H4.2.1] at hg;cases hg);have H5:=hi2 F5 (aI b5 fH);have lU:=hi2 hes (aI heh (aI Pt gm));clear M5 bg fH hes heh Pt gm x0 x1 x2 x3 x4 xz xl t0 t1 t2 t3 tz tl s0 s1 s2 sz sl;obtain⟨⟨x0,x1,x2,x3,x4,xz,xl⟩,⟨t0,t1,t2,t3,tz,tl⟩,-⟩:=HC.o _ F5;obtain⟨s0,s1,s2,sz,sl⟩:=cells3 b5;clear F5 b5;rcases jL ef.length 3 with Dg|Dg
 focus
  have xF:decide ((ef.length:Int)<3)=true:=by simp;omega
  go_upto_region 7 with fail
  obtain⟨ta,tc,eT,Vt,nQ,HT,mg⟩:∃ ta tc eT Vt,V5=Vt/\Hid (Bs w1 Vt s x.d x.p ta tc eT)/\Hid (jk (nf+1) g (List.map Rb.key xs) sp y oldest=⟨g,rep (List.map Rb.key xs) i [(x.d,x.p,r5 eT y)],sp,false⟩):=⟨a4,c4,ef,V5,rfl,hid ⟨H5.1,H5.2.1,H5.2.2,lU.1,lU.2.2.1⟩,hid (by
   have hr:cy ef y.hash 3=true:=by unfold cy;rw[decide_eq_true Dg,Bool.or_true]
   rw[yK,wA,if_pos hr])⟩
  rw[nQ];clear nQ Ko xF Dg x0 x1 x2 x3 x4 xz xl t0 t1 t2 t3 tz tl s0 s1 s2 sz sl wA H4 H5 lU
 rotate_left;have xF:decide ((ef.length:Int)<3)=false:=by simp;omega
 have hr0:¬ cy ef y.hash 3=true:=by unfold cy;rw[lU.2.2.2,decide_eq_false oM];decide
 have Bf:=hid (show jk (nf+1) g (List.map Rb.key xs) sp y oldest=_ from by rw[yK,wA,if_neg hr0]);have Em:=hid Dg;clear Dg hr0;go_upto_region 8 with fail
 rcases jL x.d 3 with ie|ie
 .have hdd:decide ((x.d:Int)<3)=true:=by simp;omega
  have bF:=hid (Bf.trans (if_pos ie));have CR:g+nf<=1000:=oM
  have CS:g+1+nf<=1000:=oM
  have Nh:=hid (show wrap64 ((g:Int)+1)=(g:Int)+1 by simp only[wrap64];omega);have Bl:=hid (show wrap64 (sp+1)=sp+1 by simp only[wrap64];omega);rcases Nat.decEq x.d g with fI|fI
  focus
   have tq:((x.d:Int) == (g:Int))=false:=by rw[BN];exact decide_eq_false fI
   go_upto_region 12 with fail
   try simp only[Nh.o,Bl.o]
   obtain⟨g',Vs,Jq,HG⟩:∃ (g':Nat) (Vs:w9),V5.setCell (aA z 4) (iI (sp+1))=Vs/\Hid ((if x.d=g then g+1 else g)=g'/\g'+nf<=1000/\Vs.heap[z]?=some (.cells #[iI g',iI 3,iI 3,sL gb n vc,iI (sp+1)] 137)/\Fr (fun b=>b=z) V5 Vs):=⟨g,_,rfl,hid ⟨if_neg fI,CR,by rw[hsc _ _ _ _ (H5.1.heap HB.1 id)];rfl,by with_reducible (repeat (first|exact fR|refine Fr.setCell ?_ (fun _=>by simp) _))⟩⟩
   rw[Jq];clear Jq tq fI Nh Bl CR CS
  rotate_left;focus
   subst fI;go_upto_region 12 with fail
   try simp only[Nh.o,Bl.o]
   obtain⟨g',Vs,Jq,HG⟩:∃ (g':Nat) (Vs:w9),(V5.setCell z (iI ((x.d:Int)+1))).setCell (aA z 4) (iI (sp+1))=Vs/\Hid ((if x.d=x.d then x.d+1 else x.d)=g'/\g'+nf<=1000/\Vs.heap[z]?=some (.cells #[iI g',iI 3,iI 3,sL gb n vc,iI (sp+1)] 137)/\Fr (fun b=>b=z) V5 Vs):=⟨x.d+1,_,rfl,hid ⟨if_pos rfl,CS,by rw[hsc _ _ _ _ (hsc _ _ _ _ (H5.1.heap HB.1 id))];rfl,by with_reducible (repeat (first|exact fR|refine Fr.setCell ?_ (fun _=>by simp) _))⟩⟩
   rw[Jq];clear Jq Nh Bl CR CS
  all_goals
   clear hdd Ko xF x0 x1 x2 x3 x4 xz xl t0 t1 t2 t3 tz tl s0 s1 s2 sz sl;have Zw:Fr (fun b=>b=z) w1 Vs:=(H5.1.mono (S':=fun b=>b=z) nE).trans HG.2.2.2 nI;have Nz:=hid Zw;have HCs:=hid fun V (F:Fr (fun b=>b=z+1+1) Vs V)=>aI (cells5 (F.heap HG.2.2.1 fun h=>oM)) (aI (D8 (F.heap (Nz.heap HB.2.1 fun h=>oM) fun h=>oM)) (cells3 (F.heap (HG.2.2.2.heap H5.2.1 fun h=>oM) fun h=>oM)));have HYs:=hid fun V (F:Fq Vs V)=>(F.heap (Nz.heap HB.2.2 fun h=>oM) id);have hOs:t8 Vs 0 (sL a4 ef.length c4) ef:=K3 H5.2.2 HG.2.2.2 (fun g' c' hg e=>by rw[e,H5.1.heap HB.1 id] at hg;cases hg);have HOs:=hid hOs;clear Zw hOs;refine wp_region_noPanic ?_;refine q8 (fun V=>Fr (fun b=>b=z+1+1) Vs V) (.rd 0 (.rd 1 (.rd 2 (.rd 4 (.rd 8 (.rd 9 (.op 3 (.op 5 (.op 6 (.op 7 (.op 10 (.rd 11 (.rd 12 (.op 13 (.rd 14 .done))))))))))))))) kF kF kF (fun _ _ _ _ _ h=>h) fR.drew ?_;iterate 6
    refine oP ?_ ?_ ?_;rotate_left
    . intro V hV;obtain⟨⟨x0,x1,x2,x3,x4,xz,xl⟩,⟨t0,t1,t2,t3,tz,tl⟩,s0,s1,s2,sz,sl⟩:=HCs.o V hV;go_simp;try with_reducible rfl
   have FD:=(Fr.refl (fun _=>False) Vs).drew;obtain⟨d1,av⟩:=eX (x.d+1)
   obtain⟨q0,pS⟩:=eX (2*x.p)
   obtain⟨q1,mU⟩:=eX (2*x.p+1)
   have jU:=hid fun V (F:Fq Vs V)=>wC0 (oN HOs.o F) lU.2.2.1 x.d x.p oM hp8 lU.2.1 av pS mU;have HHv:=hid (show halves x.key ef=[(d1,q0,ef.filter (bN x.d q0)),(d1,q1,ef.filter (bN x.d q1))] by rw[<- av,<- pS,<- mU];rfl);clear av pS mU;refine rQ fun K hK=>?_
   (with_reducible refine (jU.o _ FD).1.mono ?_)
   rintro _ V6 ⟨a6,c6,rfl,xf,G6⟩;have F6:=FD.trans G6 nI;refine hK _ _ (F6.mono nE) ?_;clear hK K G6;refine rQ fun K hK=>?_
   (with_reducible refine (jU.o _ F6).2.mono ?_)
   rintro _ V7 ⟨a7,c7,rfl,kh,G7⟩;have F7:=F6.trans G7 nI;refine hK _ _ (F7.mono nE) ?_;clear hK K;have Ja:=ao (oN xf G7) (C3 _);have Jb:=ao kh (C3 _);clear xf kh G7;refine rQ fun K hK=>?_;obtain⟨V8,Pe⟩:=eX (V7.alloc (.cells #[iI d1,iI q0,.slice a6 (ef.filter (bN x.d q0)).length c6,iI d1,iI q1,.slice a7 (ef.filter (bN x.d q1)).length c7] 220))
   have b8:=fB Pe
   have nk:=fA Pe
   have F8:=F7.trans nk nI;have hU:OwnB V8 0 (sL V7 2 2) (halves x.key ef):=by rw[HHv];exact wd0 b8 (oN Ja nk) (oN Jb nk)
   rw[Pe];refine hK _ _ (F8.mono nE) ?_;clear hK K Pe b8 Ja Jb;have lg:Fq w V8:=(HF.trans Nz.o (S:=fun _=>False) fun b hb e=>by have:=HZ.o;omega).trans F8 nI;refine rQ fun K hK=>?_
   (with_reducible refine (yN.o (g':Int) (sp+1) _ lg _ _ hU (by simp[halves])).mono ?_)
   rintro _ V9 ⟨v9,rfl,sF,G9⟩;have F9:=F8.trans G9 nI;have hFw9:=lg.trans G9 nI;obtain⟨l9,Fo⟩:=eX (rep (List.map Rb.key xs) i (halves x.key ef))
   change OwnB V9 0 v9 (rep (List.map Rb.key xs) i (halves x.key ef)) at sF;have Sn:=hid (show l9.length+nf<=50000 by
    have:=zO0 (l:=List.map Rb.key xs) (m:=halves x.key ef) (i:=i) (by rw[Z8,HN.1];exact T4);rw[Fo,Z8,HN.1,show (halves x.key ef).length=2 from rfl] at this;omega)
   have Su:=hid (show ∀ c ∈ l9,Hq c from fun c hc=>by
    rw[<- Fo] at hc;rcases zN0 hc with hc|hc
    . exact wy.1 c hc
    . exact tz0 (wy.1 _ (gM wy.2.2)) ie lU.2.2.1 lU.1 lU.2.1 c hc)
   obtain⟨j9,c9,hj9,hc9,vh⟩:=jU0 ef RZ.o ie hy;have RY:=hi2 (show l9.findIdx? (R9 y.hash)=some (i+j9) by rw[<- Fo];exact up0 wy.2.1 hj9) (aI (show l9[i+j9]?=some c9 by rw[<- Fo];exact yn0 (by rw[Z8,HN.1];exact FU T4) hc9) (show 3<c9.1+nf by rw[vh];show 3<x.d+1+nf;omega));rw[Fo] at sF bF;have hG1:=HG.1;obtain⟨a9,c9',rfl⟩:=sF.slice;refine hK _ _ (F9.mono nE) ?_;clear hK K hj9 hc9 vh Fo lg F8 nk hU;refine rQ fun K hK=>?_
   (with_reducible refine (HIH.o _ _ _ sF Sn.o g' HG.o.2.1 (sp+1) oM oM Su.o _ _ RY.o.1 RY.o.2.1 RY.o.2.2).mono ?_)
   rintro _ yR ⟨v10,rfl,sE,Zy⟩;have F10:=F9.trans Zy nI;have hR:=bF.o;rw[hG1] at hR;obtain⟨r,hr⟩:=eX (jk nf g' l9 (sp+1) y oldest)
   rw[hr] at sE hR ⊢;have Ns:=hid hR;obtain⟨n10,Kr⟩:=eX r.l.length
   obtain⟨a10,c10,rfl⟩:=sE.slice;rw[Kr] at sE ⊢;refine hK _ _ (F10.mono nE) ?_;clear hK K G9 Zy F9 sF hr Kr hR;iterate 2
    refine oP ?_ ?_ ?_;rotate_left
    . intro V hV;go_simp;try with_reducible rfl
   refine rP fun K hK=>?_;obtain⟨y0,y1,y2,y3,y4,yz,yl⟩:=cells5 (HYs _ F10);go_simp;have IN:Fq w yR:=(HF.trans Nz.o (S:=fun _=>False) fun b hb e=>by have:=HZ.o;omega).trans F10 nI;have HE:=hid (show ∀ W',((((yR.setCell (aA (z+1+1) 0) (iI r.g)).setCell (aA (z+1+1) 1) (iI 3)).setCell (aA (z+1+1) 2) (iI 3)).setCell (aA (z+1+1) 3) (sL a10 n10 c10)).setCell (aA (z+1+1) 4) (iI r.sp)=W'->Ex r.g 3 3 r.sp r.lost _ w _ W' from fun W' hW=>YD (show w.heap.size<z+1+1 by have:=HZ.o;omega) IN (HYs _ F10) sE hW);refine hK _ _ ((F10.mono (S':=fun b=>b=z+1+1) nE).trans (S:=fun b=>b=z+1+1) (by with_reducible (repeat (first|exact fR|refine Fr.setCell ?_ (fun _=>by simp) _))) nI) ?_;clear hK K;refine oR ?_
   refine o5 ?_;refine NoPanic.normal ?_;try simp only[Act.put,sI,sZ,sS]
   clear F10 IN sE hG1 F7 F6 FD;go_wp2_with fail
   refine bodyPost_ret (v:=tU #[ai r.g 3 3 (sL a10 n10 c10) r.sp,bO r.lost]) sR rfl ?_;rw[Ns];exact HE _ rfl
 focus
  have hdd:decide ((x.d:Int)<3)=false:=by simp;omega
  obtain⟨k,hk⟩:=qv0 ef ef.length (by have:=Em.o;omega) (nR _);have lG:=(OU ef _ k hk).2;obtain⟨e,he⟩:∃ e,ef[k]?=some e:=⟨_,gE lG⟩
  have hEl:DG ef=e.hash:=by unfold DG;rw[hk];simp only[he]
  have mh:=hid (show jk (nf+1) g (List.map Rb.key xs) sp y oldest=⟨g,rep (List.map Rb.key xs) i [(x.d,x.p,r5 (ef.filter (I8 e.hash)) y)],sp,true⟩ by rw[Bf,if_neg oM,hEl]);have uF:=hid (uq0 H5.2.2 (nT lU.2.2.1 dC) x.d x.p);rw[hk] at uF;replace uF:=hid (show cP 212 _ V5 (MT (k:Int) V5) from uF.o)
  have cF:(k:Int)<(ef.length:Int):=oM
  obtain⟨ge,rfl,cE,q0,-⟩:=qO H5.2.2 he;have HQ:=hi2 cE q0;clear hk he hEl cE q0;go_wp2_with (go_at_call 212;(with_reducible refine uF.o.mono ?_))
  rintro _ V6 ⟨rfl,F6⟩;have H6:=hi2 (H5.1.trans F6 nI) (aI F6 (F6.heap H5.2.1 id));have dE:=hid fun V (F:Fq V6 V)=>uv0 (oN H5.2.2 (F6.trans F nI)) (nT lU.2.2.1 dC) x.d x.p e.hash;have JV:ge≠s:=fun h=>by
   obtain⟨-,c,hc⟩:=jW H5.2.2 rfl;rw[h,H5.2.1] at hc;cases hc
  have oL:=hid fun V (F:Fr (fun b=>b=s) V6 V)=>(F.cell (p:=⟨ge,k*4,none⟩) (E4 HQ.1 F6.size) fun h=>JV h).trans ((F6.cell (p:=⟨ge,k*4,none⟩) HQ.1 id).trans HQ.2);clear F6 JV x0 x1 x2 x3 x4 xz xl t0 t1 t2 t3 tz tl s0 s1 s2 sz sl hdd xF Ko;go_upto_region 14 with fail
  have FD:=(Fr.refl (fun _=>False) V6).drew;refine wp_region_noPanic ?_;refine q8 (fun V=>Fr (fun b=>b=s) V6 V) (.rd 1 (.rd 3 (.two 0 2 (.op 2 (.rd 4 (.rd 5 (.rd 6 (.op 7 (.op 8 .done)))))) (.rd 4 (.rd 5 (.rd 6 (.op 0 (.op 7 (.op 8 .done))))))))) kF kF kF (fun _ _ _ _ _ h=>h) (FD.mono nE) ?_;iterate 2
   refine oP ?_ ?_ ?_;rotate_left
   .intro V hV;have e0:=oL.o V hV;go_simp;try with_reducible rfl
  refine mu ?_ ?_;focus
   iterate 2
    refine rP fun K hK=>?_;obtain⟨u0,u1,u2,uz,ul⟩:=cells3 (FD.heap H6.2.2 id);go_simp;refine hK _ _ (FD.mono nE) ?_;clear hK K u0 u1 u2 uz ul
   iterate 3
    refine oP ?_ ?_ ?_;rotate_left
    . intro V hV;have e0:=oL.o V hV;go_simp;try with_reducible rfl
   refine rQ fun K hK=>?_
   (with_reducible refine (dE.o _ FD).mono ?_)
   rintro _ V8 ⟨a8,c8,rfl,hU,G8⟩;have F8:=FD.trans G8 nI;refine hK _ _ (F8.mono nE) ?_;clear hK K G8;refine rP fun K hK=>?_;obtain⟨u0,u1,u2,uz,ul⟩:=cells3 (F8.heap H6.2.2 id);go_simp;obtain⟨V9,mG⟩:=eX (((V8.setCell s (iI x.d)).setCell (aA s 1) (iI x.p)).setCell (aA s 2) (.slice a8 (ef.filter (I8 e.hash)).length c8))
   rw[mG];have vU:Fr (fun b=>b=s) V8 V9:=by rw[<- mG];with_reducible (repeat (first|exact fR|refine Fr.setCell ?_ (fun _=>by simp) _))
   have HT:=hid (show Bs w1 V9 s x.d x.p a8 c8 (ef.filter (I8 e.hash)) from⟨(H6.1.trans F8 nI).trans vU (fun b hb e=>by have:=HS.o;omega),by rw[<- mG,hsc _ _ _ _ (hsc _ _ _ _ (hsc _ _ _ _ (F8.heap H6.2.2 id)))];rfl,K3 (ao hU (C3 _)) vU (fun g' c' hg e=>by rw[e,F8.heap H6.2.2 id] at hg;cases hg),Ia lU.1 _,nT (mY _ _) lU.2.2.1⟩);refine hK _ _ ((F8.mono (S':=fun b=>b=s) nE).trans vU nI) ?_;clear hK K mG vU hU F8 u0 u1 u2 uz ul;refine o5 ?_;refine NoPanic.normal ?_;try simp only[Act.put,sI,sZ,sS]
   go_upto_region 15 with fail
   obtain⟨ta,tc,eT,Vt,nQ,HT,mg⟩:∃ ta tc eT Vt,V9=Vt/\Hid (Bs w1 Vt s x.d x.p ta tc eT)/\Hid (jk (nf+1) g (List.map Rb.key xs) sp y oldest=⟨g,rep (List.map Rb.key xs) i [(x.d,x.p,r5 eT y)],sp,true⟩):=⟨_,_,_,V9,rfl,HT,mh⟩
   rw[nQ];clear nQ
  rotate_left;focus
   refine rP fun K hK=>?_;obtain⟨u0,u1,u2,uz,ul⟩:=cells3 (FD.heap H6.2.2 id);go_simp;refine hK _ _ (FD.mono nE) ?_;clear hK K u0 u1 u2 uz ul;iterate 3
    refine oP ?_ ?_ ?_;rotate_left
    . intro V hV;have e0:=oL.o V hV;go_simp;try with_reducible rfl
   refine rP fun K hK=>?_;obtain⟨u0,u1,u2,uz,ul⟩:=cells3 (FD.heap H6.2.2 id);go_simp;refine hK _ _ (FD.mono nE) ?_;clear hK K u0 u1 u2 uz ul;refine rQ fun K hK=>?_
   (with_reducible refine (dE.o _ FD).mono ?_)
   rintro _ V8 ⟨a8,c8,rfl,hU,G8⟩;have F8:=FD.trans G8 nI;refine hK _ _ (F8.mono nE) ?_;clear hK K G8;refine rP fun K hK=>?_;obtain⟨u0,u1,u2,uz,ul⟩:=cells3 (F8.heap H6.2.2 id);go_simp;obtain⟨V9,mG⟩:=eX (((V8.setCell s (iI x.d)).setCell (aA s 1) (iI x.p)).setCell (aA s 2) (.slice a8 (ef.filter (I8 e.hash)).length c8))
   rw[mG];have vU:Fr (fun b=>b=s) V8 V9:=by rw[<- mG];with_reducible (repeat (first|exact fR|refine Fr.setCell ?_ (fun _=>by simp) _))
   have HT:=hid (show Bs w1 V9 s x.d x.p a8 c8 (ef.filter (I8 e.hash)) from⟨(H6.1.trans F8 nI).trans vU (fun b hb e=>by have:=HS.o;omega),by rw[<- mG,hsc _ _ _ _ (hsc _ _ _ _ (hsc _ _ _ _ (F8.heap H6.2.2 id)))];rfl,K3 (ao hU (C3 _)) vU (fun g' c' hg e=>by rw[e,F8.heap H6.2.2 id] at hg;cases hg),Ia lU.1 _,nT (mY _ _) lU.2.2.1⟩);refine hK _ _ ((F8.mono (S':=fun b=>b=s) nE).trans vU nI) ?_;clear hK K mG vU hU F8 u0 u1 u2 uz ul;refine o5 ?_;refine NoPanic.normal ?_;try simp only[Act.put,sI,sZ,sS]
   go_upto_region 15 with fail
   obtain⟨ta,tc,eT,Vt,nQ,HT,mg⟩:∃ ta tc eT Vt,V9=Vt/\Hid (Bs w1 Vt s x.d x.p ta tc eT)/\Hid (jk (nf+1) g (List.map Rb.key xs) sp y oldest=⟨g,rep (List.map Rb.key xs) i [(x.d,x.p,r5 eT y)],sp,true⟩):=⟨_,_,_,V9,rfl,HT,mh⟩
   rw[nQ];clear nQ
 rotate_left 0;all_goals
  have HCt:=hid fun V (F:Fr (fun b=>b=z+1+1) Vt V)=>aI (cells5 (F.heap (HT.1.heap HB.1 id) fun h=>oM)) (aI (D8 (F.heap (HT.1.heap HB.2.1 id) fun h=>oM)) (cells3 (F.heap HT.2.1 fun h=>oM)));have HYt:=hid fun V (F:Fq Vt V)=>(F.heap (HT.1.heap HB.2.2 id) id);refine wp_region_noPanic ?_;refine q8 (fun V=>Fr (fun b=>b=z+1+1) Vt V) (.rd 0 (.rd 1 (.rd 2 (.rd 3 (.op 4 (.op 5 (.op 6 (.op 7 (.rd 8 .done))))))))) kF kF kF (fun _ _ _ _ _ h=>h) fR.drew ?_;iterate 4
   refine oP ?_ ?_ ?_;rotate_left
   .intro V hV;obtain⟨⟨x0,x1,x2,x3,x4,xz,xl⟩,⟨t0,t1,t2,t3,tz,tl⟩,s0,s1,s2,sz,sl⟩:=HCt.o V hV;go_simp;try with_reducible rfl
  have FD:=(Fr.refl (fun _=>False) Vt).drew;refine rQ fun K hK=>?_
  (with_reducible refine (zJ0 (oN HT.o.2.2.1 FD) HT.o.2.2.2.1 (nT HT.o.2.2.2.2 dC) x.d x.p y).mono ?_)
  rintro _ V6 ⟨a6,c6,rfl,xf,G6⟩;have F6:=FD.trans G6 nI;refine hK _ _ (F6.mono nE) ?_;clear hK K G6;refine rQ fun K hK=>?_;obtain⟨V7,m8⟩:=eX (V6.alloc (.cells #[iI x.d,iI x.p,.slice a6 (r5 eT y).length c6] 220))
  have b7:=fB m8
  have lO:=fA m8
  have F7:=F6.trans lO nI;have kh:=ph0 b7 (ao (oN xf lO) (C3 _));have lg:Fq w V7:=(HF.trans HT.1 nI).trans F7 nI;rw[m8];refine hK _ _ (F7.mono nE) ?_;clear hK K m8 b7 lO xf;refine rQ fun K hK=>?_
  (with_reducible refine (yN.o (g:Int) sp _ lg _ _ kh sP).mono ?_)
  rintro _ V8 ⟨v8,rfl,hU,G8⟩;have F8:=F7.trans G8 nI;have IQ:=lg.trans G8 nI;change OwnB V8 0 v8 (rep (List.map Rb.key xs) i [(x.d,x.p,r5 eT y)]) at hU;obtain⟨l8,Vq⟩:=eX (rep (List.map Rb.key xs) i [(x.d,x.p,r5 eT y)])
  obtain⟨n8,Di⟩:=eX l8.length
  obtain⟨a8,c8,rfl⟩:=hU.slice;rw[Vq] at hU mg ⊢;rw[Di] at hU ⊢;refine hK _ _ (F8.mono nE) ?_;clear hK K G8 Vq Di kh;refine rP fun K hK=>?_;obtain⟨y0,y1,y2,y3,y4,yz,yl⟩:=cells5 (HYt _ F8);go_simp;have HE:=hid (fun (ok:Bool)=>(show ∀ W',((((V8.setCell (aA (z+1+1) 0) (iI g)).setCell (aA (z+1+1) 1) (iI 3)).setCell (aA (z+1+1) 2) (iI 3)).setCell (aA (z+1+1) 3) (sL a8 n8 c8)).setCell (aA (z+1+1) 4) (iI sp)=W'->Ex g 3 3 sp ok _ w _ W' from fun W' hW=>YD (show w.heap.size<z+1+1 by have:=HZ.o;omega) IQ (HYt _ F8) hU hW));refine hK _ _ ((F8.mono (S':=fun b=>b=z+1+1) nE).trans (S:=fun b=>b=z+1+1) (by with_reducible (repeat (first|exact fR|refine Fr.setCell ?_ (fun _=>by simp) _))) nI) ?_;clear hK K;refine oR ?_
  refine o5 ?_;refine NoPanic.normal ?_;try simp only[Act.put,sI,sZ,sS]
  clear F8 IQ hU F7 F6 FD lg;go_wp2_with fail
  first
   | (refine bodyPost_ret (v:=tU #[ai g 3 3 (sL a8 n8 c8) sp,bO false]) sR rfl ?_;rw[mg];exact HE false _ rfl)
   | (refine bodyPost_ret (v:=tU #[ai g 3 3 (sL a8 n8 c8) sp,bO true]) sR rfl ?_;rw[mg];exact HE true _ rfl)
