/- A pack of texts. Conditions: those that each names. -/
import Derived.Test.YtgdhaaokolfdoaaGreatDoorNBM
set_option maxHeartbeats 16000000
set_option maxRecDepth 100000
set_option linter.all false
namespace Go.Proofs.YtgdhaaokolfdoaaGreatDoor
open Go.RowKit Go.Sg CP SF
variable {es:List Bt}{h:Nat}{o:Int}
theorem uF0 {w:World}{a:Option Addr}{c:Nat}(hE:cF0 w 0 (.slice a es.length c) es)(hl:es.length<=60000)(d p:Nat)(hd:d<=20)(hp:p<=65535)(hh:∀ x ∈ es,x.hash<18446744073709551616){d1 q0 q1:Nat}(h1:d+1=d1)(h2:2*p=q0)(h3:2*p+1=q1) :
  Calls Tryz.prog 211 #[rbV d p (.slice a es.length c),.int .i64 0] w (RbP (d1:Int) (q0:Int) (es.filter (bX0 d q0)) w) /\
  Calls Tryz.prog 211 #[rbV d p (.slice a es.length c),.int .i64 1] w (RbP (d1:Int) (q1:Int) (es.filter (bX0 d q1)) w):=by
 subst h1 h2 h3;exact⟨lU0 hE (nT hl dC) d p 0 hd hp dC hh,lU0 hE (nT hl dC) d p 1 hd hp dC hh⟩
theorem oO0 (es:List Bt):∀ k,0<k->k<=es.length->∃ j,dl0 es k=some j:=by
 intro k;induction k with
 | zero=>intro h;omega
 | succ k ih =>
  intro _ hk;obtain⟨x,hx⟩:∃ x,es[k]?=some x:=⟨_,gE oM⟩
  simp only[dl0,hx];cases hb:dl0 es k with
  | none=>exact⟨k,rfl⟩
  | some j =>
   obtain⟨y,hy⟩:∃ y,es[j]?=some y:=⟨_,gE (gw0 es k j hb).2⟩
   simp only[hy];split
   ·exact⟨k,rfl⟩
   ·exact⟨j,rfl⟩
def RwR (r:ve0)(w:World)(e:Ending)(w':World):Prop:=RwP r.g 3 3 r.sp r.lost r.l w e w'
abbrev PtT (w1 Vt:World)(s d p:Nat)(ta:Option Addr)(tc:Nat)(ef:List Bt):Prop:=Fq w1 Vt/\Vt.heap[s]?=some (.cells #[.int .i64 d,.int .i64 p,.slice ta ef.length tc] 220)/\cF0 Vt 0 (.slice ta ef.length tc) ef/\aa0 ef/\ef.length<=60000
theorem jx0 (hr:bJ0 es h 3=true):aG0 es h o=es:=by unfold aG0;rw[if_pos hr]
theorem pq0 (h1:hasB es h=false)(h2:¬ es.length<3):aG0 es h o=es.filter (ak0 o):=by unfold aG0 bJ0;rw[h1,if_neg (by simp[h2])]
theorem uI0 (y:Bt)(oldest:Int)(hy:y.hash<18446744073709551616):∀ (nf:Nat) (w:World) (v:Value) (l:Lb) (_:OwnB w 0 v l) (_:l.length+nf<=50000) (g:Nat) (_:g+nf<=1000) (sp:Int) (_:0<=sp) (_:sp+nf<=100000) (_:∀ b ∈ l,OkB b) (i:Nat) (b:Nat × Nat × List Bt) (_:l.findIdx? (dL0 y.hash)=some i) (_:l[i]?=some b) (_:3<b.1+nf),
  Calls Tryz.prog 146 #[ixV g 3 3 v sp,btV y,.int .i64 oldest] w (RwR (km0 nf g l sp y oldest) w):=by
 intro nf;induction nf with
 | zero=>intro w v l _ _ g _ sp _ _ hd i b _ hb h3;have:=(hd b (gM hb)).1;omega
 | succ nf ih =>
 intro w v l hB hl g hg sp hsp0 hsp hd i b hi hb h3;have HIH:=hid ih;clear ih;have HAt:=hid (fun V (F:Fq w V)=>sx0 (hB.fr F) oM g 3 3 sp y.hash hy (fun b hb=>nT (hd b hb).1 dC) hi);have HWi:=hid (fun (g':Int) (sp':Int) V (F:Fq w V) (v2:Value) (l2:Lb) (h2:OwnB V 0 v2 l2) (hl2:l2.length<=2)=>oh0 (hB.fr F) h2 oM hl2 g' 3 3 sp' (getD_some hb));have HRq:=hid (ny0 (n:=nf) (g:=g) (sp:=sp) (o:=oldest) hi hb);obtain⟨hb3,hbp,hbl,hbs,hbh⟩:=hd b (gM hb);have HRec:=hi2 hd (aI hi hb);have hhit:dL0 y.hash b=true:=by
  rw[lg9] at hi;obtain⟨q1,q2,-⟩:=hi;rw[gE q1] at hb;cases hb;exact q2
 have HHit:=hid hhit;obtain⟨xs,rfl,hR,hE⟩:=hB;obtain⟨va,vc,rfl,-,-,-,-⟩:=oSl hR;obtain⟨x,hx,rfl⟩:=nK0 hb;replace HRq:=hid (show km0 (nf+1) g (List.map Rb.key xs) sp y oldest =
  if bJ0 (aG0 x.es y.hash oldest) y.hash 3=true then ⟨g,rep (List.map Rb.key xs) i [(x.d,x.p,bK0 (aG0 x.es y.hash oldest) y)],sp,false⟩
  else if x.d<3 then km0 nf (if x.d=g then g+1 else g) (rep (List.map Rb.key xs) i (halves x.key (aG0 x.es y.hash oldest))) (sp+1) y oldest
  else ⟨g,rep (List.map Rb.key xs) i [(x.d,x.p,bK0 ((aG0 x.es y.hash oldest).filter (dv0 (gE0 (aG0 x.es y.hash oldest)))) y)],sp,true⟩ from HRq.out)
 replace hb3:x.d<=3:=hb3
 replace hbp:x.p<2^x.d:=hbp
 replace hbl:x.es.length<=60000:=hbl
 replace hbs:aa0 x.es:=hbs
 replace hbh:∀ e ∈ x.es,e.hash<18446744073709551616:=hbh
 have hp8:x.p<=65535:=by
  have:2^x.d<=2^3:=lc9 dC hb3;omega
 replace h3:3<x.d+(nf+1):=h3
 have hin:=getD_some hx;have hEx:=hE x (gM hx);obtain⟨gb,rfl,hgb,c0,c1,c2⟩:=ir0 hR hx;obtain⟨n,hn⟩:=eX xs.length
 rw[ln9] at hl;rw[hn] at hR hin hl HAt HWi ⊢;obtain⟨w1,hw1⟩:=eX (((w.alloc (.cells #[.int .i64 g,.int .i64 3,.int .i64 3,.slice (some ⟨gb,0,none⟩) n vc,.int .i64 sp] 137)).alloc (.cells #[.int .u64 y.hash,.int .i64 y.rg,.int .i64 y.at_,.int .i64 y.sz] 110)).alloc (.cells #[.int .i64 0,.int .i64 0,.int .i64 0,.slice none 0 0,.int .i64 0] 137))
 obtain⟨z,hz⟩:=eX w.heap.size
 obtain⟨b0,b1,b2,F1⟩:=aO0 hw1;rw[hz] at b0 b1 b2;have hs1:w1.heap.size=z+3:=by rw[<- hw1,<- hz];simp
 have HC:=hid (fun V (F:Fq w1 V)=>aI (cells5 (F.heap b0 id)) (aI (ah0 (F.heap b1 id)) (aI (((F1.trans F nI).cell (p:=⟨gb,i*3,none⟩) hgb id).trans c0) (aI (((F1.trans F nI).cell (p:=⟨gb,i*3+1,none⟩) hgb id).trans c1) (aI (((F1.trans F nI).cell (p:=⟨gb,i*3+2,none⟩) hgb id).trans c2) (nLL hgb (F1.trans F nI).size))))));have HEx:=hid (fun V (F:Fq w1 V)=>oN hEx (F1.trans F nI));have HB:=hi2 b0 (aI b1 b2);have HF:=hid F1;have HW:=hid hw1;have HZ:=hid hz;have HS:=hid hs1;have HOk:=hi2 hbp (aI hbs hbh);have hii:(i:Int)<(n:Int):=oM
 have HN:=hi2 hn hx;obtain⟨⟨x0,x1,x2,x3,x4,xz,xl⟩,⟨t0,t1,t2,t3,tz,tl⟩,e0,e1,e2,eg⟩:=HC.out _ (Fr.refl _ _);clear hE hR hEx hx hn hw1 F1 b0 b1 b2 hz hd c0 c1 c2 hgb hb hi hs1 hbp hbs hbh hhit;go_enter Tryz.func146,Tryz.ntmps146;go_upto_region 1 with fail
 rw[HW.out];try simp only[HZ.out]
 go_wp2_with fail
 (with_reducible refine (HAt.out _ HF.out).mono ?_)
 rintro _ V1 ⟨rfl,F1⟩;have H1:=hid F1;clear x0 x1 x2 x3 x4 xz xl t0 t1 t2 t3 tz tl e0 e1 e2 eg;obtain⟨⟨x0,x1,x2,x3,x4,xz,xl⟩,⟨t0,t1,t2,t3,tz,tl⟩,e0,e1,e2,eg⟩:=HC.out _ F1;clear F1;go_upto_region 3 with fail
 obtain⟨V2,hV2⟩:=eX (V1.alloc (.cells #[.int .i64 x.d,.int .i64 x.p,.slice x.a x.es.length x.c] 220))
 obtain⟨s,hs⟩:=eX V1.heap.size
 have bs:V2.heap[s]?=some (.cells #[.int .i64 x.d,.int .i64 x.p,.slice x.a x.es.length x.c] 220):=by rw[<- hV2,<- hs];exact han _ _
 have F2:Fq w1 V2:=by rw[<- hV2];exact H1.out.alloc _
 have hsl:z+3<=s:=by rw[<- hs,<- HS.out];exact H1.out.size
 rw[hV2];try simp only[hs]
 have HRF:=hid (gi0 (d:=x.d) (p:=x.p) (HEx.out _ F2) (nT hbl dC) y.hash);have H2:=hi2 F2 bs;clear x0 x1 x2 x3 x4 xz xl t0 t1 t2 t3 tz tl e0 e1 e2 eg hV2 hs;obtain⟨⟨x0,x1,x2,x3,x4,xz,xl⟩,⟨t0,t1,t2,t3,tz,tl⟩,-⟩:=HC.out _ F2;obtain⟨s0,s1,s2,sz,sl⟩:=cells3 bs;clear F2 bs;go_wp2_with (go_at_call 206;(with_reducible refine HRF.out.mono ?_))
 rintro _ V3 ⟨rfl,F3⟩;have H3:=hi2 (H2.out.1.trans F3 nI) (F3.heap H2.out.2 id);clear F3 x0 x1 x2 x3 x4 xz xl t0 t1 t2 t3 tz tl s0 s1 s2 sz sl;obtain⟨⟨x0,x1,x2,x3,x4,xz,xl⟩,⟨t0,t1,t2,t3,tz,tl⟩,-⟩:=HC.out _ H3.out.1;obtain⟨s0,s1,s2,sz,sl⟩:=cells3 H3.out.2;have hfd:decide (fdI x.es y.hash≥0)=hasB x.es y.hash:=by rw[vS0,gr0]
 rcases hhb:hasB x.es y.hash with _|_
 rotate_left;focus
  rw[hhb] at hfd;go_upto_region 4 with fail
  obtain⟨ta,tc,eT,Vt,hVt,HT,HPut⟩:∃ ta tc eT Vt,V3=Vt/\Hid (PtT w1 Vt s x.d x.p ta tc eT)/\Hid (km0 (nf+1) g (List.map Rb.key xs) sp y oldest=⟨g,rep (List.map Rb.key xs) i [(x.d,x.p,bK0 eT y)],sp,false⟩):=⟨x.a,x.c,x.es,V3,rfl,hid ⟨H3.out.1,H3.out.2,HEx.out _ H3.out.1,HOk.out.2.1,hbl⟩,hid (by
   have hr:bJ0 x.es y.hash 3=true:=by unfold bJ0;rw[hhb];rfl
   rw[HRq.out,jx0 hr,if_pos hr])⟩
  rw[hVt];clear hhb;clear hVt hfd x0 x1 x2 x3 x4 xz xl t0 t1 t2 t3 tz tl s0 s1 s2 sz sl
 rotate_left;rw[hhb] at hfd;rcases lV9 x.es.length 3 with hm|hm
 focus
  have hmd:decide ((x.es.length:Int)<3)=true:=by simp;omega
  go_upto_region 4 with fail
  obtain⟨ta,tc,eT,Vt,hVt,HT,HPut⟩:∃ ta tc eT Vt,V3=Vt/\Hid (PtT w1 Vt s x.d x.p ta tc eT)/\Hid (km0 (nf+1) g (List.map Rb.key xs) sp y oldest=⟨g,rep (List.map Rb.key xs) i [(x.d,x.p,bK0 eT y)],sp,false⟩):=⟨x.a,x.c,x.es,V3,rfl,hid ⟨H3.out.1,H3.out.2,HEx.out _ H3.out.1,HOk.out.2.1,hbl⟩,hid (by
   have hr:bJ0 x.es y.hash 3=true:=by unfold bJ0;rw[decide_eq_true hm,Bool.or_true]
   rw[HRq.out,jx0 hr,if_pos hr])⟩
  rw[hVt];clear hVt hhb hm hmd hfd x0 x1 x2 x3 x4 xz xl t0 t1 t2 t3 tz tl s0 s1 s2 sz sl
 rotate_left;have hmd:decide ((x.es.length:Int)<3)=false:=by simp;omega
 go_upto_region 5 with fail
 have HRq2:=hid (pq0 (o:=oldest) hhb (show ¬ x.es.length<3 by omega));have HFs:=hid (uJ0 (HEx.out _ H3.out.1) (nT hbl dC) x.d x.p oldest);have HHb:=hid hhb;clear hhb hm hfd;go_wp2_with (go_at_call 210;(with_reducible refine HFs.out.mono ?_))
 rintro _ V4 ⟨a4,c4,rfl,hO4,F4⟩;obtain⟨ef,hef⟩:=eX (x.es.filter (ak0 oldest))
 have hes:aa0 ef:=by rw[<- hef];exact bO0 HOk.out.2.1 _
 have heh:∀ e ∈ ef,e.hash<18446744073709551616:=by rw[<- hef];exact fun e he=>HOk.out.2.2 e (mb9.1 he).1
 have hel:ef.length<=60000:=by rw[<- hef];exact nT (lD9 _ _) hbl
 have heb:hasB ef y.hash=false:=by rw[<- hef];exact mV0 HHb.out _
 rw[hef] at hO4 HRq2 ⊢;have F14:=H3.out.1.trans F4 nI;have b4:=F4.heap H3.out.2 id;have H4:=hi2 F14 (aI b4 hO4);clear F4 hO4 hef x0 x1 x2 x3 x4 xz xl t0 t1 t2 t3 tz tl s0 s1 s2 sz sl;obtain⟨⟨x0,x1,x2,x3,x4,xz,xl⟩,⟨t0,t1,t2,t3,tz,tl⟩,-⟩:=HC.out _ F14;obtain⟨s0,s1,s2,sz,sl⟩:=cells3 b4;clear F14 b4;go_upto_region 6 with fail
 obtain⟨V5,hV5⟩:=eX (((V4.setCell ⟨s,0,none⟩ (.int .i64 x.d)).setCell ⟨s,1,none⟩ (.int .i64 x.p)).setCell ⟨s,2,none⟩ (.slice a4 ef.length c4))
 rw[hV5];have b5:V5.heap[s]?=some (.cells #[.int .i64 x.d,.int .i64 x.p,.slice a4 ef.length c4] 220):=by rw[<- hV5,hsc _ _ _ _ (hsc _ _ _ _ (hsc _ _ _ _ H4.out.2.1))];rfl
 have F45:Fr (fun b=>b=s) V4 V5:=by rw[<- hV5];with_reducible (repeat (first|exact Fr.refl _ _|refine Fr.setCell ?_ (fun _=>by simp) _))
 have F5:Fq w1 V5:=H4.out.1.trans F45 (fun b hb e=>by have:=HS.out;omega);have hO5:cF0 V5 0 (.slice a4 ef.length c4) ef:=oRf (ac0 H4.out.2.2 (la9 _)) F45 (fun g' c' hg e=>by rw[e,H4.out.2.1] at hg;cases hg);have H5:=hi2 F5 (aI b5 hO5);have HEf:=hi2 hes (aI heh (aI hel heb));clear hV5 F45 hO5 hes heh hel heb x0 x1 x2 x3 x4 xz xl t0 t1 t2 t3 tz tl s0 s1 s2 sz sl;obtain⟨⟨x0,x1,x2,x3,x4,xz,xl⟩,⟨t0,t1,t2,t3,tz,tl⟩,-⟩:=HC.out _ F5;obtain⟨s0,s1,s2,sz,sl⟩:=cells3 b5;clear F5 b5;rcases lV9 ef.length 3 with hm3|hm3
 focus
  have hmd2:decide ((ef.length:Int)<3)=true:=by simp;omega
  go_upto_region 7 with fail
  obtain⟨ta,tc,eT,Vt,hVt,HT,HPut⟩:∃ ta tc eT Vt,V5=Vt/\Hid (PtT w1 Vt s x.d x.p ta tc eT)/\Hid (km0 (nf+1) g (List.map Rb.key xs) sp y oldest=⟨g,rep (List.map Rb.key xs) i [(x.d,x.p,bK0 eT y)],sp,false⟩):=⟨a4,c4,ef,V5,rfl,hid ⟨H5.out.1,H5.out.2.1,H5.out.2.2,HEf.out.1,HEf.out.2.2.1⟩,hid (by
   have hr:bJ0 ef y.hash 3=true:=by unfold bJ0;rw[decide_eq_true hm3,Bool.or_true]
   rw[HRq.out,HRq2.out,if_pos hr])⟩
  rw[hVt];clear hVt hmd hmd2 hm3 x0 x1 x2 x3 x4 xz xl t0 t1 t2 t3 tz tl s0 s1 s2 sz sl HRq2 H4 H5 HEf
 rotate_left;have hmd2:decide ((ef.length:Int)<3)=false:=by simp;omega
 have hr0:¬ bJ0 ef y.hash 3=true:=by unfold bJ0;rw[HEf.out.2.2.2,decide_eq_false oM];decide
 have HR0:=hid (show km0 (nf+1) g (List.map Rb.key xs) sp y oldest=_ from by rw[HRq.out,HRq2.out,if_neg hr0]);have HL3:=hid hm3;clear hm3 hr0;go_upto_region 8 with fail
 rcases lV9 x.d 3 with hd3|hd3
 ·have hdd:decide ((x.d:Int)<3)=true:=by simp;omega
  have HR1:=hid (HR0.out.trans (if_pos hd3));have hgb0:g+nf<=1000:=oM
  have hgb1:g+1+nf<=1000:=oM
  have HGW:=hid (show wrap64 ((g:Int)+1)=(g:Int)+1 by simp only[wrap64];omega);have HSW:=hid (show wrap64 (sp+1)=sp+1 by simp only[wrap64];omega);rcases Nat.decEq x.d g with hdg|hdg
  focus
   have heq:((x.d:Int) == (g:Int))=false:=by rw[el0];exact decide_eq_false hdg
   go_upto_region 12 with fail
   try simp only[HGW.out,HSW.out]
   obtain⟨g',Vs,hVs,HG⟩:∃ (g':Nat) (Vs:World),V5.setCell ⟨z,4,none⟩ (.int .i64 (sp+1))=Vs/\Hid ((if x.d=g then g+1 else g)=g'/\g'+nf<=1000/\Vs.heap[z]?=some (.cells #[.int .i64 g',.int .i64 3,.int .i64 3,.slice (some ⟨gb,0,none⟩) n vc,.int .i64 (sp+1)] 137)/\Fr (fun b=>b=z) V5 Vs):=⟨g,_,rfl,hid ⟨if_neg hdg,hgb0,by rw[hsc _ _ _ _ (H5.out.1.heap HB.out.1 id)];rfl,by with_reducible (repeat (first|exact Fr.refl _ _|refine Fr.setCell ?_ (fun _=>by simp) _))⟩⟩
   rw[hVs];clear hVs heq hdg HGW HSW hgb0 hgb1
  rotate_left;focus
   subst hdg;go_upto_region 12 with fail
   try simp only[HGW.out,HSW.out]
   obtain⟨g',Vs,hVs,HG⟩:∃ (g':Nat) (Vs:World),(V5.setCell ⟨z,0,none⟩ (.int .i64 ((x.d:Int)+1))).setCell ⟨z,4,none⟩ (.int .i64 (sp+1))=Vs/\Hid ((if x.d=x.d then x.d+1 else x.d)=g'/\g'+nf<=1000/\Vs.heap[z]?=some (.cells #[.int .i64 g',.int .i64 3,.int .i64 3,.slice (some ⟨gb,0,none⟩) n vc,.int .i64 (sp+1)] 137)/\Fr (fun b=>b=z) V5 Vs):=⟨x.d+1,_,rfl,hid ⟨if_pos rfl,hgb1,by rw[hsc _ _ _ _ (hsc _ _ _ _ (H5.out.1.heap HB.out.1 id))];rfl,by with_reducible (repeat (first|exact Fr.refl _ _|refine Fr.setCell ?_ (fun _=>by simp) _))⟩⟩
   rw[hVs];clear hVs HGW HSW hgb0 hgb1
  all_goals
   clear hdd hmd hmd2 x0 x1 x2 x3 x4 xz xl t0 t1 t2 t3 tz tl s0 s1 s2 sz sl;have FVs:Fr (fun b=>b=z) w1 Vs:=(H5.out.1.mono (S':=fun b=>b=z) nE).trans HG.out.2.2.2 nI;have HVs:=hid FVs;have HCs:=hid (fun V (F:Fr (fun b=>b=z+1+1) Vs V)=>aI (cells5 (F.heap HG.out.2.2.1 (fun h=>oM))) (aI (ah0 (F.heap (HVs.out.heap HB.out.2.1 (fun h=>oM)) (fun h=>oM))) (cells3 (F.heap (HG.out.2.2.2.heap H5.out.2.1 (fun h=>oM)) (fun h=>oM)))));have HYs:=hid (fun V (F:Fq Vs V)=>(F.heap (HVs.out.heap HB.out.2.2 (fun h=>oM)) id));have hOs:cF0 Vs 0 (.slice a4 ef.length c4) ef:=oRf H5.out.2.2 HG.out.2.2.2 (fun g' c' hg e=>by rw[e,H5.out.1.heap HB.out.1 id] at hg;cases hg);have HOs:=hid hOs;clear FVs hOs;refine wp_region_noPanic ?_;refine aq0 (fun V=>Fr (fun b=>b=z+1+1) Vs V) (.rd 0 (.rd 1 (.rd 2 (.rd 4 (.rd 8 (.rd 9 (.op 3 (.op 5 (.op 6 (.op 7 (.op 10 (.rd 11 (.rd 12 (.op 13 (.rd 14 .done))))))))))))))) kF kF kF (fun _ _ _ _ _ h=>h) (Fr.refl _ _).drew ?_;iterate 6
    try simp only[Act.put,sI,sZ,sS]
    refine ay0 _ ?_ gF rF ?_ ?_;rotate_left
    · intro V hV;obtain⟨⟨x0,x1,x2,x3,x4,xz,xl⟩,⟨t0,t1,t2,t3,tz,tl⟩,s0,s1,s2,sz,sl⟩:=HCs.out V hV;go_simp;try with_reducible rfl
   have FD:=(Fr.refl (fun _=>False) Vs).drew;obtain⟨d1,hd1⟩:=eX (x.d+1)
   obtain⟨q0,hq0⟩:=eX (2*x.p)
   obtain⟨q1,hq1⟩:=eX (2*x.p+1)
   have HSp:=hid (fun V (F:Fq Vs V)=>uF0 (oN HOs.out F) HEf.out.2.2.1 x.d x.p oM hp8 HEf.out.2.1 hd1 hq0 hq1);have HHv:=hid (show halves x.key ef=[(d1,q0,ef.filter (bX0 x.d q0)),(d1,q1,ef.filter (bX0 x.d q1))] by rw[<- hd1,<- hq0,<- hq1];rfl);clear hd1 hq0 hq1;try simp only[Act.put,sI,sZ,sS]
   refine az0 _ gF rF (fun K hK=>?_);go_simp
   (with_reducible refine (HSp.out _ FD).1.mono ?_)
   rintro _ V6 ⟨a6,c6,rfl,hO6,G6⟩;have F6:=FD.trans G6 nI;refine hK _ _ (F6.mono nE) ?_;clear hK K G6;try simp only[Act.put,sI,sZ,sS]
   refine az0 _ gF rF (fun K hK=>?_);go_simp
   (with_reducible refine (HSp.out _ F6).2.mono ?_)
   rintro _ V7 ⟨a7,c7,rfl,hO7,G7⟩;have F7:=F6.trans G7 nI;refine hK _ _ (F7.mono nE) ?_;clear hK K;have hO67:=ac0 (oN hO6 G7) (la9 _);have hO77:=ac0 hO7 (la9 _);clear hO6 hO7 G7;try simp only[Act.put,sI,sZ,sS]
   refine az0 _ gF rF (fun K hK=>?_);go_simp;obtain⟨V8,hV8⟩:=eX (V7.alloc (.cells #[.int .i64 d1,.int .i64 q0,.slice a6 (ef.filter (bX0 x.d q0)).length c6,.int .i64 d1,.int .i64 q1,.slice a7 (ef.filter (bX0 x.d q1)).length c7] 220))
   have b8:V8.heap[V7.heap.size]?=some (.cells #[.int .i64 d1,.int .i64 q0,.slice a6 (ef.filter (bX0 x.d q0)).length c6,.int .i64 d1,.int .i64 q1,.slice a7 (ef.filter (bX0 x.d q1)).length c7] 220):=by rw[<- hV8];exact han _ _
   have F78:Fq V7 V8:=by rw[<- hV8];exact (Fr.refl _ _).alloc _
   have F8:=F7.trans F78 nI;have hO8:OwnB V8 0 (.slice (some ⟨V7.heap.size,0,none⟩) 2 2) (halves x.key ef):=by rw[HHv.out];exact uf0 b8 (oN hO67 F78) (oN hO77 F78)
   rw[hV8];refine hK _ _ (F8.mono nE) ?_;clear hK K hV8 b8 hO67 hO77;have hFw:Fq w V8:=(HF.out.trans HVs.out (S:=fun _=>False) (fun b hb e=>by have:=HZ.out;omega)).trans F8 nI;try simp only[Act.put,sI,sZ,sS]
   refine az0 _ gF rF (fun K hK=>?_);go_simp
   (with_reducible refine (HWi.out (g':Int) (sp+1) _ hFw _ _ hO8 (by simp[halves])).mono ?_)
   rintro _ V9 ⟨v9,rfl,hO9,G9⟩;have F9:=F8.trans G9 nI;have hFw9:=hFw.trans G9 nI;obtain⟨l9,hl9⟩:=eX (rep (List.map Rb.key xs) i (halves x.key ef))
   change OwnB V9 0 v9 (rep (List.map Rb.key xs) i (halves x.key ef)) at hO9;have HLe:=hid (show l9.length+nf<=50000 by
    have:=xk0 (l:=List.map Rb.key xs) (m:=halves x.key ef) (i:=i) (by rw[ln9,HN.out.1];exact hin);rw[hl9,ln9,HN.out.1,show (halves x.key ef).length=2 from rfl] at this;omega)
   have HOk9:=hid (show ∀ c ∈ l9,OkB c from fun c hc=>by
    rw[<- hl9] at hc;rcases xj0 hc with hc|hc
    · exact HRec.out.1 c hc
    · exact rt0 (HRec.out.1 _ (gM HRec.out.2.2)) hd3 HEf.out.2.2.1 HEf.out.1 HEf.out.2.1 c hc)
   obtain⟨j9,c9,hj9,hc9,hd9⟩:=ju0 ef HHit.out hd3 hy;have HH9:=hi2 (show l9.findIdx? (dL0 y.hash)=some (i+j9) by rw[<- hl9];exact sm0 HRec.out.2.1 hj9) (aI (show l9[i+j9]?=some c9 by rw[<- hl9];exact vE0 (by rw[ln9,HN.out.1];exact np9 hin) hc9) (show 3<c9.1+nf by rw[hd9];show 3<x.d+1+nf;omega));rw[hl9] at hO9 HR1;have hG1:=HG.out.1;obtain⟨a9,c9',rfl⟩:=hO9.slice;refine hK _ _ (F9.mono nE) ?_;clear hK K hj9 hc9 hd9 hl9 hFw F8 F78 hO8;try simp only[Act.put,sI,sZ,sS]
   refine az0 _ gF rF (fun K hK=>?_);go_simp
   (with_reducible refine (HIH.out _ _ _ hO9 HLe.out g' HG.out.2.1 (sp+1) oM oM HOk9.out _ _ HH9.out.1 HH9.out.2.1 HH9.out.2.2).mono ?_)
   rintro _ V10 ⟨v10,rfl,hO10,G10⟩;have F10:=F9.trans G10 nI;have hR:=HR1.out;rw[hG1] at hR;obtain⟨r,hr⟩:=eX (km0 nf g' l9 (sp+1) y oldest)
   rw[hr] at hO10 hR ⊢;have HRr:=hid hR;obtain⟨n10,hn10⟩:=eX r.l.length
   obtain⟨a10,c10,rfl⟩:=hO10.slice;rw[hn10] at hO10 ⊢;refine hK _ _ (F10.mono nE) ?_;clear hK K G9 G10 F9 hO9 hr hn10 hR;iterate 2
    try simp only[Act.put,sI,sZ,sS]
    refine ay0 _ ?_ gF rF ?_ ?_;rotate_left
    · intro V hV;go_simp;try with_reducible rfl
   try simp only[Act.put,sI,sZ,sS]
   refine az0 _ gF rF (fun K hK=>?_);obtain⟨y0,y1,y2,y3,y4,yz,yl⟩:=cells5 (HYs.out _ F10);go_simp;have hF10:Fq w V10:=(HF.out.trans HVs.out (S:=fun _=>False) (fun b hb e=>by have:=HZ.out;omega)).trans F10 nI;have HE:=hid (show ∀ W',((((V10.setCell ⟨z+1+1,0,none⟩ (.int .i64 r.g)).setCell ⟨z+1+1,1,none⟩ (.int .i64 3)).setCell ⟨z+1+1,2,none⟩ (.int .i64 3)).setCell ⟨z+1+1,3,none⟩ (.slice a10 n10 c10)).setCell ⟨z+1+1,4,none⟩ (.int .i64 r.sp)=W'->RwP r.g 3 3 r.sp r.lost _ w _ W' from fun W' hW=>sd0 (show w.heap.size<z+1+1 by have:=HZ.out;omega) hF10 (HYs.out _ F10) hO10 hW);refine hK _ _ ((F10.mono (S':=fun b=>b=z+1+1) nE).trans (S:=fun b=>b=z+1+1) (by with_reducible (repeat (first|exact Fr.refl _ _|refine Fr.setCell ?_ (fun _=>by simp) _))) nI) ?_;clear hK K;try simp only[Act.put,sI,sZ,sS]
   refine ay0 _ ?_ gF rF ?_ ?_;rotate_left
   ·intro V hV;go_simp;try with_reducible rfl
   refine ar0 ?_;refine NoPanic.normal ?_;try simp only[Act.put,sI,sZ,sS]
   clear F10 hF10 hO10 hG1 F7 F6 FD;go_wp2_with fail
   refine bodyPost_ret (v:=.tuple #[ixV r.g 3 3 (.slice a10 n10 c10) r.sp,.bool r.lost]) sR rfl ?_;rw[HRr.out];exact HE.out _ rfl
 focus
  have hdd:decide ((x.d:Int)<3)=false:=by simp;omega
  obtain⟨k,hk⟩:=oO0 ef ef.length (by have:=HL3.out;omega) (nR _);have hkl:=(gw0 ef _ k hk).2;obtain⟨e,he⟩:∃ e,ef[k]?=some e:=⟨_,gE hkl⟩
  have hEl:gE0 ef=e.hash:=by unfold gE0;rw[hk];simp only[he]
  have HR2:=hid (show km0 (nf+1) g (List.map Rb.key xs) sp y oldest=⟨g,rep (List.map Rb.key xs) i [(x.d,x.p,bK0 (ef.filter (dv0 e.hash)) y)],sp,true⟩ by rw[HR0.out,if_neg oM,hEl]);have HEl:=hid (sn0 H5.out.2.2 (nT HEf.out.2.2.1 dC) x.d x.p);rw[hk] at HEl;replace HEl:=hid (show Calls Tryz.prog 212 _ V5 (FdP (k:Int) V5) from HEl.out)
  have hki:(k:Int)<(ef.length:Int):=oM
  obtain⟨ge,rfl,hge,q0,-⟩:=cw0 H5.out.2.2 he;have HQ:=hi2 hge q0;clear hk he hEl hge q0;go_wp2_with (go_at_call 212;(with_reducible refine HEl.out.mono ?_))
  rintro _ V6 ⟨rfl,F6⟩;have H6:=hi2 (H5.out.1.trans F6 nI) (aI F6 (F6.heap H5.out.2.1 id));have HDr:=hid (fun V (F:Fq V6 V)=>sr0 (oN H5.out.2.2 (F6.trans F nI)) (nT HEf.out.2.2.1 dC) x.d x.p e.hash);have hges:ge≠s:=fun h=>by
   obtain⟨-,c,hc⟩:=aB0 H5.out.2.2 rfl;rw[h,H5.out.2.1] at hc;cases hc
  have HCe:=hid (fun V (F:Fr (fun b=>b=s) V6 V)=>(F.cell (p:=⟨ge,k*4,none⟩) (nLL HQ.out.1 F6.size) (fun h=>hges h)).trans ((F6.cell (p:=⟨ge,k*4,none⟩) HQ.out.1 id).trans HQ.out.2));clear F6 hges x0 x1 x2 x3 x4 xz xl t0 t1 t2 t3 tz tl s0 s1 s2 sz sl hdd hmd2 hmd;go_upto_region 14 with fail
  have FD:=(Fr.refl (fun _=>False) V6).drew;refine wp_region_noPanic ?_;refine aq0 (fun V=>Fr (fun b=>b=s) V6 V) (.rd 1 (.rd 3 (.two 0 2 (.op 2 (.rd 4 (.rd 5 (.rd 6 (.op 7 (.op 8 .done)))))) (.rd 4 (.rd 5 (.rd 6 (.op 0 (.op 7 (.op 8 .done))))))))) kF kF kF (fun _ _ _ _ _ h=>h) (FD.mono nE) ?_;iterate 2
   try simp only[Act.put,sI,sZ,sS]
   refine ay0 _ ?_ gF rF ?_ ?_;rotate_left
   ·intro V hV;have e0:=HCe.out V hV;go_simp;try with_reducible rfl
  refine bn0 ?_ ?_;focus
   iterate 2
    try simp only[Act.put,sI,sZ,sS]
    refine az0 _ gF rF (fun K hK=>?_);obtain⟨u0,u1,u2,uz,ul⟩:=cells3 (FD.heap H6.out.2.2 id);go_simp;refine hK _ _ (FD.mono nE) ?_;clear hK K u0 u1 u2 uz ul
   iterate 3
    try simp only[Act.put,sI,sZ,sS]
    refine ay0 _ ?_ gF rF ?_ ?_;rotate_left
    · intro V hV;have e0:=HCe.out V hV;go_simp;try with_reducible rfl
   try simp only[Act.put,sI,sZ,sS]
   refine az0 _ gF rF (fun K hK=>?_);go_simp
   (with_reducible refine (HDr.out _ FD).mono ?_)
   rintro _ V8 ⟨a8,c8,rfl,hO8,G8⟩;have F8:=FD.trans G8 nI;refine hK _ _ (F8.mono nE) ?_;clear hK K G8;try simp only[Act.put,sI,sZ,sS]
   refine az0 _ gF rF (fun K hK=>?_);obtain⟨u0,u1,u2,uz,ul⟩:=cells3 (F8.heap H6.out.2.2 id);go_simp;obtain⟨V9,hV9⟩:=eX (((V8.setCell ⟨s,0,none⟩ (.int .i64 x.d)).setCell ⟨s,1,none⟩ (.int .i64 x.p)).setCell ⟨s,2,none⟩ (.slice a8 (ef.filter (dv0 e.hash)).length c8))
   rw[hV9];have F89:Fr (fun b=>b=s) V8 V9:=by rw[<- hV9];with_reducible (repeat (first|exact Fr.refl _ _|refine Fr.setCell ?_ (fun _=>by simp) _))
   have HT:=hid (show PtT w1 V9 s x.d x.p a8 c8 (ef.filter (dv0 e.hash)) from⟨(H6.out.1.trans F8 nI).trans F89 (fun b hb e=>by have:=HS.out;omega),by rw[<- hV9,hsc _ _ _ _ (hsc _ _ _ _ (hsc _ _ _ _ (F8.heap H6.out.2.2 id)))];rfl,oRf (ac0 hO8 (la9 _)) F89 (fun g' c' hg e=>by rw[e,F8.heap H6.out.2.2 id] at hg;cases hg),bO0 HEf.out.1 _,nT (lD9 _ _) HEf.out.2.2.1⟩);refine hK _ _ ((F8.mono (S':=fun b=>b=s) nE).trans F89 nI) ?_;clear hK K hV9 F89 hO8 F8 u0 u1 u2 uz ul;refine ar0 ?_;refine NoPanic.normal ?_;try simp only[Act.put,sI,sZ,sS]
   go_upto_region 15 with fail
   obtain⟨ta,tc,eT,Vt,hVt,HT,HPut⟩:∃ ta tc eT Vt,V9=Vt/\Hid (PtT w1 Vt s x.d x.p ta tc eT)/\Hid (km0 (nf+1) g (List.map Rb.key xs) sp y oldest=⟨g,rep (List.map Rb.key xs) i [(x.d,x.p,bK0 eT y)],sp,true⟩):=⟨_,_,_,V9,rfl,HT,HR2⟩
   rw[hVt];clear hVt
  rotate_left;focus
   try simp only[Act.put,sI,sZ,sS]
   refine az0 _ gF rF (fun K hK=>?_);obtain⟨u0,u1,u2,uz,ul⟩:=cells3 (FD.heap H6.out.2.2 id);go_simp;refine hK _ _ (FD.mono nE) ?_;clear hK K u0 u1 u2 uz ul;iterate 3
    try simp only[Act.put,sI,sZ,sS]
    refine ay0 _ ?_ gF rF ?_ ?_;rotate_left
    · intro V hV;have e0:=HCe.out V hV;go_simp;try with_reducible rfl
   try simp only[Act.put,sI,sZ,sS]
   refine az0 _ gF rF (fun K hK=>?_);obtain⟨u0,u1,u2,uz,ul⟩:=cells3 (FD.heap H6.out.2.2 id);go_simp;refine hK _ _ (FD.mono nE) ?_;clear hK K u0 u1 u2 uz ul;try simp only[Act.put,sI,sZ,sS]
   refine az0 _ gF rF (fun K hK=>?_);go_simp
   (with_reducible refine (HDr.out _ FD).mono ?_)
   rintro _ V8 ⟨a8,c8,rfl,hO8,G8⟩;have F8:=FD.trans G8 nI;refine hK _ _ (F8.mono nE) ?_;clear hK K G8;try simp only[Act.put,sI,sZ,sS]
   refine az0 _ gF rF (fun K hK=>?_);obtain⟨u0,u1,u2,uz,ul⟩:=cells3 (F8.heap H6.out.2.2 id);go_simp;obtain⟨V9,hV9⟩:=eX (((V8.setCell ⟨s,0,none⟩ (.int .i64 x.d)).setCell ⟨s,1,none⟩ (.int .i64 x.p)).setCell ⟨s,2,none⟩ (.slice a8 (ef.filter (dv0 e.hash)).length c8))
   rw[hV9];have F89:Fr (fun b=>b=s) V8 V9:=by rw[<- hV9];with_reducible (repeat (first|exact Fr.refl _ _|refine Fr.setCell ?_ (fun _=>by simp) _))
   have HT:=hid (show PtT w1 V9 s x.d x.p a8 c8 (ef.filter (dv0 e.hash)) from⟨(H6.out.1.trans F8 nI).trans F89 (fun b hb e=>by have:=HS.out;omega),by rw[<- hV9,hsc _ _ _ _ (hsc _ _ _ _ (hsc _ _ _ _ (F8.heap H6.out.2.2 id)))];rfl,oRf (ac0 hO8 (la9 _)) F89 (fun g' c' hg e=>by rw[e,F8.heap H6.out.2.2 id] at hg;cases hg),bO0 HEf.out.1 _,nT (lD9 _ _) HEf.out.2.2.1⟩);refine hK _ _ ((F8.mono (S':=fun b=>b=s) nE).trans F89 nI) ?_;clear hK K hV9 F89 hO8 F8 u0 u1 u2 uz ul;refine ar0 ?_;refine NoPanic.normal ?_;try simp only[Act.put,sI,sZ,sS]
   go_upto_region 15 with fail
   obtain⟨ta,tc,eT,Vt,hVt,HT,HPut⟩:∃ ta tc eT Vt,V9=Vt/\Hid (PtT w1 Vt s x.d x.p ta tc eT)/\Hid (km0 (nf+1) g (List.map Rb.key xs) sp y oldest=⟨g,rep (List.map Rb.key xs) i [(x.d,x.p,bK0 eT y)],sp,true⟩):=⟨_,_,_,V9,rfl,HT,HR2⟩
   rw[hVt];clear hVt
 rotate_left 0;all_goals
  have HCt:=hid (fun V (F:Fr (fun b=>b=z+1+1) Vt V)=>aI (cells5 (F.heap (HT.out.1.heap HB.out.1 id) (fun h=>oM))) (aI (ah0 (F.heap (HT.out.1.heap HB.out.2.1 id) (fun h=>oM))) (cells3 (F.heap HT.out.2.1 (fun h=>oM)))));have HYt:=hid (fun V (F:Fq Vt V)=>(F.heap (HT.out.1.heap HB.out.2.2 id) id));refine wp_region_noPanic ?_;refine aq0 (fun V=>Fr (fun b=>b=z+1+1) Vt V) (.rd 0 (.rd 1 (.rd 2 (.rd 3 (.op 4 (.op 5 (.op 6 (.op 7 (.rd 8 .done))))))))) kF kF kF (fun _ _ _ _ _ h=>h) (Fr.refl _ _).drew ?_;iterate 4
   try simp only[Act.put,sI,sZ,sS]
   refine ay0 _ ?_ gF rF ?_ ?_;rotate_left
   ·intro V hV;obtain⟨⟨x0,x1,x2,x3,x4,xz,xl⟩,⟨t0,t1,t2,t3,tz,tl⟩,s0,s1,s2,sz,sl⟩:=HCt.out V hV;go_simp;try with_reducible rfl
  have FD:=(Fr.refl (fun _=>False) Vt).drew;try simp only[Act.put,sI,sZ,sS]
  refine az0 _ gF rF (fun K hK=>?_);go_simp
  (with_reducible refine (xg0 (oN HT.out.2.2.1 FD) HT.out.2.2.2.1 (nT HT.out.2.2.2.2 dC) x.d x.p y).mono ?_)
  rintro _ V6 ⟨a6,c6,rfl,hO6,G6⟩;have F6:=FD.trans G6 nI;refine hK _ _ (F6.mono nE) ?_;clear hK K G6;try simp only[Act.put,sI,sZ,sS]
  refine az0 _ gF rF (fun K hK=>?_);go_simp;obtain⟨V7,hV7⟩:=eX (V6.alloc (.cells #[.int .i64 x.d,.int .i64 x.p,.slice a6 (bK0 eT y).length c6] 220))
  have b7:V7.heap[V6.heap.size]?=some (.cells #[.int .i64 x.d,.int .i64 x.p,.slice a6 (bK0 eT y).length c6] 220):=by rw[<- hV7];exact han _ _
  have F67:Fq V6 V7:=by rw[<- hV7];exact (Fr.refl _ _).alloc _
  have F7:=F6.trans F67 nI;have hO7:=ow0 b7 (ac0 (oN hO6 F67) (la9 _));have hFw:Fq w V7:=(HF.out.trans HT.out.1 nI).trans F7 nI;rw[hV7];refine hK _ _ (F7.mono nE) ?_;clear hK K hV7 b7 F67 hO6;try simp only[Act.put,sI,sZ,sS]
  refine az0 _ gF rF (fun K hK=>?_);go_simp
  (with_reducible refine (HWi.out (g:Int) sp _ hFw _ _ hO7 sP).mono ?_)
  rintro _ V8 ⟨v8,rfl,hO8,G8⟩;have F8:=F7.trans G8 nI;have hFw8:=hFw.trans G8 nI;change OwnB V8 0 v8 (rep (List.map Rb.key xs) i [(x.d,x.p,bK0 eT y)]) at hO8;obtain⟨l8,hl8⟩:=eX (rep (List.map Rb.key xs) i [(x.d,x.p,bK0 eT y)])
  obtain⟨n8,hn8⟩:=eX l8.length
  obtain⟨a8,c8,rfl⟩:=hO8.slice;rw[hl8] at hO8 HPut ⊢;rw[hn8] at hO8 ⊢;refine hK _ _ (F8.mono nE) ?_;clear hK K G8 hl8 hn8 hO7;try simp only[Act.put,sI,sZ,sS]
  refine az0 _ gF rF (fun K hK=>?_);obtain⟨y0,y1,y2,y3,y4,yz,yl⟩:=cells5 (HYt.out _ F8);go_simp;have HE:=hid (fun (ok:Bool)=>(show ∀ W',((((V8.setCell ⟨z+1+1,0,none⟩ (.int .i64 g)).setCell ⟨z+1+1,1,none⟩ (.int .i64 3)).setCell ⟨z+1+1,2,none⟩ (.int .i64 3)).setCell ⟨z+1+1,3,none⟩ (.slice a8 n8 c8)).setCell ⟨z+1+1,4,none⟩ (.int .i64 sp)=W'->RwP g 3 3 sp ok _ w _ W' from fun W' hW=>sd0 (show w.heap.size<z+1+1 by have:=HZ.out;omega) hFw8 (HYt.out _ F8) hO8 hW));refine hK _ _ ((F8.mono (S':=fun b=>b=z+1+1) nE).trans (S:=fun b=>b=z+1+1) (by with_reducible (repeat (first|exact Fr.refl _ _|refine Fr.setCell ?_ (fun _=>by simp) _))) nI) ?_;clear hK K;try simp only[Act.put,sI,sZ,sS]
  refine ay0 _ ?_ gF rF ?_ ?_;rotate_left
  ·intro V hV;go_simp;try with_reducible rfl
  refine ar0 ?_;refine NoPanic.normal ?_;try simp only[Act.put,sI,sZ,sS]
  clear F8 hFw8 hO8 F7 F6 FD hFw;go_wp2_with fail
  first
   | (refine bodyPost_ret (v:=.tuple #[ixV g 3 3 (.slice a8 n8 c8) sp,.bool false]) sR rfl ?_;rw[HPut.out];exact HE.out false _ rfl)
   | (refine bodyPost_ret (v:=.tuple #[ixV g 3 3 (.slice a8 n8 c8) sp,.bool true]) sR rfl ?_;rw[HPut.out];exact HE.out true _ rfl)
