/- A pack of texts. Conditions: those that each names. -/
import Derived.Test.YtgdhaaokolfdoaaGreatDoorNBK
set_option maxHeartbeats 16000000
set_option maxRecDepth 100000
set_option linter.all false
namespace Go.Proofs.YtgdhaaokolfdoaaGreatDoor
section
open Go.RowKit Go.Sg CP SF
variable {es l:List Bt}{w:World}{base c e g k s:Nat}{a:Option Addr}
theorem gO0:∀ u ∈ l.flatMap btC,u.oneCell'=true:=by
 intro u hu;obtain⟨x,_,hx⟩:=mf9.1 hu;simp[btC] at hx;rcases hx with rfl|rfl|rfl|rfl <;> rfl
theorem ud0 (h:w.ownsRow base e 4 (.slice (some ⟨g,0,none⟩) l.length c) l.length (l.flatMap btC))(hk:k<l.length)(x:Bt) :
  ((((w.setCell ⟨g,k*4,none⟩ (.int .u64 x.hash)).setCell ⟨g,k*4+1,none⟩ (.int .i64 x.rg)).setCell ⟨g,k*4+2,none⟩ (.int .i64 x.at_)).setCell ⟨g,k*4+3,none⟩ (.int .i64 x.sz)).ownsRow base e 4 (.slice (some ⟨g,0,none⟩) (l.set k x).length c) (l.set k x).length ((l.set k x).flatMap btC):=by
 obtain⟨hl,⟨h0,h1⟩|⟨g',cap,cur,hv,hb,hg,hc,hm,hs,ht⟩⟩:=h
 ·cases h0
 ·cases hv;refine⟨by rw[bl0],.inr ⟨g,c,(((cur.setIfInBounds (k*4) (.int .u64 x.hash)).setIfInBounds (k*4+1) (.int .i64 x.rg)).setIfInBounds (k*4+2) (.int .i64 x.at_)).setIfInBounds (k*4+3) (.int .i64 x.sz),by rw[lx9],hb,?_,by rw[lx9];exact hc,hm,by simpa using hs,?_⟩⟩
  ·rw[hsc _ _ _ _ (hsc _ _ _ _ (hsc _ _ _ _ (hsc _ _ _ _ hg)))]
  ·rw[vU0 l k x hk,lx9,<- ht];simp only[mT9,List.take_set]
theorem mD0 {W:World}{B size:Nat}(hB:B<=g)(h:W.heap[g]?=some (.cells #[] e)):W.ownsRow B e size (.slice (some ⟨g,0,none⟩) 0 0) 0 []:=
 ⟨by simp,.inr ⟨g,0,#[],rfl,hB,h,nR _,la9 _,by simp,by simp⟩⟩
theorem pv0 {h:Nat}(hs:aa0 es):fdI es h=if hasB es h=true then ((plI es h:Nat):Int) else -1:=by
 split
 ·rename_i hh;obtain⟨x,hx,he⟩:=(bB0 hs).1 hh;exact nN0 hx he fun j y hj hy=>by have:=(ik0 hs hy).1 hj;omega
 ·rename_i hh;exact nO0 fun j y _ hy e=>hh (md9.2 ⟨y,gM hy,by simpa using e⟩)
theorem AS0 (a:Option Addr)(n c m:Nat)(h:m<=c)(W:World):(Instr.slice 218 (.slice a n c) none (some (.int .i64 m)) none).run Tryz.prog W = .ok (.slice a m c) W:=eA0 218 4 kF (fun W=>by kernel_rfl) a n c m h W
theorem vD0 {wr W':World}{z m:Nat}{d p:Int}{c0 c2:Array Value}(hz:w.heap.size=z)(hF:Fq w wr)(h0:wr.heap[z]?=some (.cells c0 220))(h2:wr.heap[z+1+1]?=some (.cells c2 220))(hO:cF0 wr z (.slice a es.length c) es)(hm:es.length=m)
  (hW:(((wr.setCell ⟨z,2,none⟩ (.slice a m c)).setCell ⟨z+1+1,0,none⟩ (.int .i64 d)).setCell ⟨z+1+1,1,none⟩ (.int .i64 p)).setCell ⟨z+1+1,2,none⟩ (.slice a m c)=W') :
  RbP d p es w (.returned (rbV d p (.slice a m c))) W':=by
 subst hm;have F:Fr (fun b=>b=z\/b=z+1+1) wr W':=by
  rw[<- hW];with_reducible (repeat (first|exact Fr.refl _ _|refine Fr.setCell ?_ (fun _=>by simp) _))
 refine⟨a,c,rfl,oRf (ac0 hO oM) F (fun g c' hg e=>?_),hF.trans F (fun b hb e=>oM)⟩;rcases e with e|e
 ·rw[e,h0] at hg;cases hg
 ·rw[e,h2] at hg;cases hg
theorem xg0 {v:Value}(hE:cF0 w 0 v es)(hs:aa0 es)(hl:es.length<=65000)(d p:Int)(x:Bt) :
  Calls Tryz.prog 209 #[rbV d p v,btV x] w (RbP d p (bK0 es x) w):=by
 obtain⟨va,vc,rfl,-,-,-,-⟩:=oSl hE;obtain⟨n,hn⟩:=eX es.length
 obtain⟨w1,hw1⟩:=eX (((w.alloc (.cells #[.int .i64 d,.int .i64 p,.slice va n vc] 220)).alloc (.cells #[.int .u64 x.hash,.int .i64 x.rg,.int .i64 x.at_,.int .i64 x.sz] 110)).alloc (.cells #[.int .i64 0,.int .i64 0,.slice none 0 0] 220))
 obtain⟨b0,b1,b2,F1⟩:=aO0 hw1;obtain⟨z,hz⟩:=eX w.heap.size
 rw[hz] at b0 b1 b2;have hE1:=oN hE F1;have hs1:w1.heap.size=z+3:=by rw[<- hw1,<- hz];simp
 rw[hn] at hE1 hl ⊢;obtain⟨q,hq⟩:=eX (plI es x.hash)
 have hqn:q<=n:=by rw[<- hq,<- hn];exact ot0 _ _
 have HC:=hid (fun V (F:Fq w1 V)=>aI (cells3 (F.heap b0 id)) (aI (ah0 (F.heap b1 id)) (cells3 (F.heap b2 id))));have HE:=hid hE1;have HN:=hid hn;have HF:=hid F1;have HW:=hid hw1;have HS:=hid hs1;have HB:=hi2 b0 (aI b1 b2);have HZ:=hid hz;have HSo:=hid hs;have HQ:=hid hq;have HFd:=hid (pv0 (h:=x.hash) hs);obtain⟨i0,hi0,hz0,hz1,hz2⟩:=info_parts Tryz.jD0;obtain⟨⟨x0,x1,x2,xz,xl⟩,⟨t0,t1,t2,t3,tz,tl⟩,⟨y0,y1,y2,yz,yl⟩⟩:=HC.out _ (Fr.refl _ _);clear hE hE1 hn F1 hw1 b0 b1 b2 hs1 hq hs hz;go_enter Tryz.func209,Tryz.ntmps209;go_upto_region 1 with fail
 rw[HW.out];try simp only[HZ.out]
 go_wp2_with (at_builtin;refine ag0 rfl (.tmp 9) (.tmp 11) 218 rfl w1.heap.size 110 i0 _ 4 32 Tryz.underlying218 hi0 hz0 hz1 hz2 rfl dC _ _ _ rfl (gl0 _ _ (nR _) _ _ _ (by simp[go_sem])) (.slice va n vc) n (es.flatMap btC) rfl (il0 (oN HE.out ((Fr.refl _ _).alloc (.cells #[] 110)))) (by rw[bl0,HN.out]) gO0 (by simp only[maxLen];omega) oM sP ?_)
 intro v3 W3 hown3 hg3 hne3;try simp only[le9,lp9] at hown3
 obtain⟨a3,c3,rfl,hnc,-,-,-⟩:=oSl hown3;have F3:Fq w1 W3:=((Fr.refl (fun b=>b=w1.heap.size) _).alloc _).trans (Fr.of_grownBy hg3) (fun b _ h=>h) |>.mono (fun b hb h=>oM)
 have hO3:cF0 W3 w1.heap.size (.slice a3 n c3) es:=by unfold cF0;rw[HN.out];exact hown3
 have H3:=hi2 hO3 F3;have HRF:=hid (gi0 (v:=.slice va n vc) (es:=es) (w:=W3) (by unfold cF0;rw[HN.out];exact oN HE.out F3) (by rw[HN.out];omega) d p x.hash);clear hown3 hg3 hne3 F3 x0 x1 x2 xz xl t0 t1 t2 t3 tz tl y0 y1 y2 yz yl hO3;obtain⟨⟨x0,x1,x2,xz,xl⟩,⟨t0,t1,t2,t3,tz,tl⟩,⟨y0,y1,y2,yz,yl⟩⟩:=HC.out _ H3.out.2;go_wp2_with fail
 (with_reducible refine HRF.out.mono ?_)
 rintro _ W4 ⟨rfl,F4⟩;have FW4:=H3.out.2.trans F4 nI;have H4:=hi2 (show cF0 W4 w1.heap.size (.slice a3 es.length c3) es by rw[HN.out];exact oN H3.out.1 F4) FW4;have hi4:Fq w1 W4:=FW4;have HLe:=hid FW4.size;have HD:=hid (fun V (F:Fq W4 V)=>HC.out V (H4.out.2.trans F nI));clear F4 FW4 hi4 x0 x1 x2 xz xl t0 t1 t2 t3 tz tl y0 y1 y2 yz yl;obtain⟨⟨x0,x1,x2,xz,xl⟩,⟨t0,t1,t2,t3,tz,tl⟩,⟨y0,y1,y2,yz,yl⟩⟩:=HD.out _ (Fr.refl _ _);cases hhb:hasB es x.hash with
 | true =>
  have hfd:fdI es x.hash=(q:Int):=by rw[HFd.out,if_pos hhb,HQ.out]
  rw[hfd];have hge:decide ((q:Int)≥0)=true:=by simp
  obtain⟨y,hy,-⟩:=(bB0 HSo.out).1 hhb;rw[HQ.out] at hy;have hqn:q<n:=by rw[<- HN.out];exact (gI.1 hy).1
  obtain⟨g,rfl,hg,u0,u1,u2,u3⟩:=cw0 H4.out.1 hy;have hgb:w1.heap.size<=g:=(aB0 H4.out.1 rfl).1;have hP:bK0 es x=es.set q x:=by unfold bK0;rw[hhb,if_pos rfl,HQ.out]
  have hgz:∀ o,W4.frozen? ⟨g,o,none⟩=false:=by
   obtain⟨-,c,hc⟩:=aB0 H4.out.1 rfl;exact fun o=>foh hc o
  have hqi:(q:Int)<(n:Int):=oM
  have hg0:g≠z:=by have:=HS.out;omega
  have hg1:g≠z+1:=by have:=HS.out;omega
  have hg2:g≠z+1+1:=by have:=HS.out;omega
  have HP:=hid hP;have HGB:=hid hgb;have HSet:=hid (ud0 H4.out.1 (by rw[HN.out];exact hqn) x);clear hP hy hgb hhb hfd;go_upto_region 5 with fail
  obtain⟨W5,hW5⟩:=eX ((((W4.setCell ⟨g,q*4,none⟩ (.int .u64 x.hash)).setCell ⟨g,q*4+1,none⟩ (.int .i64 x.rg)).setCell ⟨g,q*4+2,none⟩ (.int .i64 x.at_)).setCell ⟨g,q*4+3,none⟩ (.int .i64 x.sz))
  rw[hW5] at HSet ⊢;have F5:Fr (fun b=>b=g) W4 W5:=by
   rw[<- hW5];with_reducible (repeat (first|exact Fr.refl _ _|refine Fr.setCell ?_ (fun _=>by simp) _))
  have F15:Fq w1 W5:=H4.out.2.trans F5 (fun b hb e=>by have:=HGB.out;omega);have H5:=hid F15;clear F5 hW5 u0 u1 u2 u3 hgz x0 x1 x2 xz xl t0 t1 t2 t3 tz tl y0 y1 y2 yz yl;obtain⟨⟨x0,x1,x2,xz,xl⟩,⟨t0,t1,t2,t3,tz,tl⟩,⟨y0,y1,y2,yz,yl⟩⟩:=HC.out _ H5.out;clear F15 t0 t1 t2 t3 tz tl;go_wp2_with fail
  refine bodyPost_ret (v:=rbV d p (.slice (some ⟨g,0,none⟩) n c3)) sR rfl ?_;rw[HP.out];exact vD0 HZ.out (HF.out.trans H5.out nI) (H5.out.heap HB.out.1 id) (H5.out.heap HB.out.2.2 id) (ac0 (by simpa[HN.out] using HSet.out) (by have:=HS.out;omega)) (by rw[lx9,HN.out]) rfl
 | false =>
  have hfd:fdI es x.hash = -1:=by rw[HFd.out,hhb];rfl
  rw[hfd];have hge:decide ((-1:Int)≥0)=false:=dC
  have hP:bK0 es x=hZ0 es q x:=by unfold bK0;rw[hhb,if_neg dC,HQ.out]
  have HP:=hid hP;clear hP hfd hhb;go_wp2_with fail
  clear x0 x1 x2 xz xl t0 t1 t2 t3 tz tl y0 y1 y2 yz yl;go_loopw [7] (fun i wr=>∃ k:Nat,k<=q/\i = .int .i64 k/\Fq W4 wr) (fun i _=>n-(intOf i).toNat)
  case atStart=>exact⟨0,la9 _,rfl,Fr.refl _ _⟩
  case round =>
   obtain⟨k,hk,rfl,hF⟩:=hrel;have HFr:=hid hF;by_cases hlt:k<q
   ·have hkn:k<n:=oM;have hd:decide ((k:Int)<(n:Int))=true:=sO;have hki:(k:Int)<(n:Int):=oM;have hkw:wrap64 ((k:Int)+1)=((k+1:Nat):Int):=bM0 oM;obtain⟨y,hy⟩:∃ y,es[k]?=some y:=⟨_,gE (by rw[HN.out];exact hkn)⟩
    have hls:decide (y.hash<x.hash)=true:=decide_eq_true ((ik0 HSo.out hy).1 (by rw[HQ.out];exact hlt));obtain⟨g,rfl,hg,c0,-⟩:=cw0 (oN H4.out.1 hF) hy;obtain⟨-,⟨t0,t1,t2,t3,tz,tl⟩,-⟩:=HD.out _ hF;clear hy hF;go_upto_region 8 with fail
    go_quiet (fail)
    go_wp2_with fail
    go_roundw;case rel=>exact⟨k+1,hlt,by go_num,HFr.out.drewN _⟩
    case measure=>simp[intOf];omega
   ·obtain rfl:k=q:=by omega
    have hto:=AS0 a3 n c3 k oM;obtain⟨a2,hfrom,hF2⟩:∃ a2:Option Addr,(∀ W,(Instr.slice 218 (.slice a3 n c3) (some (.int .i64 k)) none none).run Tryz.prog W = .ok (.slice a2 (n-k) (c3-k)) W)/\∀ V,Fq W4 V->ts0 V (.slice a2 (n-k) (c3-k)) (n-k) ((es.flatMap btC).drop (k*4)):=⟨_,fun W=>bW0 218 4 kF (fun W=>by kernel_rfl) _ n c3 k oM W,fun V F=>by have:=fI0 (oN H4.out.1 F) k (by rw[HN.out];omega);rwa [HN.out] at this⟩
    have HF2:=hid hF2;clear hF2;have HT:=hid (fun V (F:Fq wr V)=>jj0 (oN H4.out.1 (HFr.out.trans F nI)) k (by rw[HN.out];omega));have HDr:=hid (fun V (F:Fq wr V)=>HD.out V (HFr.out.trans F nI));obtain⟨⟨x0,x1,x2,xz,xl⟩,⟨t0,t1,t2,t3,tz,tl⟩,-⟩:=HD.out _ hF;have hx:(k<n->∃ (g y:Nat),a3=some ⟨g,0,none⟩/\decide (y<x.hash)=false/\g<wr.heap.size/\wr.cell? ⟨g,k*4,none⟩=some (.int .u64 y)):=fun hkn=>by
     obtain⟨y,hy⟩:∃ y,es[k]?=some y:=⟨_,gE (by rw[HN.out];exact hkn)⟩
     obtain⟨g',e,hg,c0,-⟩:=cw0 (oN H4.out.1 hF) hy;exact⟨g',y.hash,e,decide_eq_false fun h=>by have:=(ik0 HSo.out hy).2 h;rw[HQ.out] at this;omega,hg,c0⟩
    clear hF hlt;rcases lV9 k n with hkn|hkn
    focus
     obtain⟨g,y,rfl,hls,hg,c0⟩:=hx hkn;have hd:decide ((k:Int)<(n:Int))=true:=sO;have hki:(k:Int)<(n:Int):=oM;go_upto_region 8 with fail
     go_quiet (fail)
     go_upto_region 10 with fail
    rotate_left;focus
     have hd:decide (k<n)=false:=decide_eq_false oM;clear hx hkn;go_upto_region 8 with fail
     go_quiet (fail)
     go_upto_region 10 with fail
    all_goals
     obtain⟨wz,hwz⟩:=eX (wr.drewN nq)
     have fz:Fq wr wz:=(by rw[<- hwz];exact (Fr.refl _ _).drewN _);rw[hwz];replace HT:=hid (fun V (F:Fq wz V)=>HT.out V (fz.trans F nI))
     replace HDr:=hid (fun V (F:Fq wz V)=>HDr.out V (fz.trans F nI))
     have FZ:=hid (HFr.out.trans fz nI);clear hwz fz x0 x1 x2 xz xl t0 t1 t2 t3 tz tl;refine wp_region_noPanic ?_;refine aq0 (fun V=>Fq wz V) (.rd 1 (.rd 2 (.rd 3 (.rd 5 (.two 0 6 (.two 4 6 (.op 6 (.op 7 (.rd 8 .done))) (.op 4 (.op 7 (.rd 8 .done)))) (.op 0 (.op 4 (.op 7 (.rd 8 .done))))))))) kF kF kF (fun _ _ _ _ _ h=>h) (Fr.refl _ _).drew ?_;iterate 4
      try simp only[Act.put,sI,sZ,sS]
      refine ay0 _ ?_ gF rF ?_ ?_;rotate_left
      ·intro V hV;obtain⟨-,⟨t0,t1,t2,t3,tz,tl⟩,-⟩:=HDr.out V hV;go_simp;try with_reducible rfl
     refine bn0 ?_ ?_;focus
      try simp only[Act.put,sI,sZ,sS]
      refine az0 _ gF rF (fun K hK=>?_);go_simp;obtain⟨V0,hV0⟩:=eX ((wz.alloc (.cells #[] 110)).drew)
      have nV0:V0.heap[wz.heap.size]?=some (.cells #[] 110):=(by rw[<- hV0];exact han wz (.cells #[] 110));have fV0:Fq wz V0:=(by rw[<- hV0];exact ((Fr.refl _ _).alloc _).drew);rw[hV0];refine hK _ _ fV0 ?_;clear hK K;refine bn0 ?_ ?_;focus
       try simp only[Act.put,sI,sZ,sS]
       refine az0 _ gF rF (fun K hK=>?_);refine fP0 rfl (.tmp 42) (.tmp 45) 218 rfl wz.heap.size 110 i0 _ 4 32 Tryz.underlying218 hi0 hz0 hz1 hz2 rfl dC (.slice (some ⟨wz.heap.size,0,none⟩) 0 0) 0 [] rfl (mD0 (nR _) nV0) _ k ((es.flatMap btC).take (k*4)) rfl (HT.out _ fV0) (by rw[lT,bl0,HN.out];omega) (fun u hu=>gO0 u (lR9 hu)) (by simp only[maxLen];omega) oM fV0.size ?_;intro v4 V4 hO4 hg4;simp only[le9,lp9] at hO4;obtain⟨a4,c4,rfl,-,-,-,-⟩:=oSl hO4;have fV4:Fq wz V4:=qi0 fV0 hg4 (nR _);refine hK _ _ fV4 ?_;clear hK K;try simp only[Act.put,sI,sZ,sS]
       refine az0 _ gF rF (fun K hK=>?_);go_simp;obtain⟨V6,hV6⟩:=eX (V4.alloc (.cells #[.int .u64 x.hash,.int .i64 x.rg,.int .i64 x.at_,.int .i64 x.sz] 110))
       have nV6:V6.heap[V4.heap.size]?=some (.cells #[.int .u64 x.hash,.int .i64 x.rg,.int .i64 x.at_,.int .i64 x.sz] 110):=(by rw[<- hV6];exact han V4 (.cells #[.int .u64 x.hash,.int .i64 x.rg,.int .i64 x.at_,.int .i64 x.sz] 110));have fV6:Fq wz V6:=(by rw[<- hV6];exact fV4.alloc _);have gV6:Fq V4 V6:=(by rw[<- hV6];exact (Fr.refl _ _).alloc _);rw[hV6];refine hK _ _ fV6 ?_;clear hK K;try simp only[Act.put,sI,sZ,sS]
       refine az0 _ gF rF (fun K hK=>?_);refine cy0 rfl (.tmp 46) (.tmp 48) 218 rfl wz.heap.size 110 i0 _ 4 32 Tryz.underlying218 hi0 hz0 hz1 hz2 rfl dC (.slice a4 k c4) k _ rfl (oN hO4 gV6) ⟨V4.heap.size,0,none⟩ 1 1 (btC x) rfl (World.news_of_block nV6) rfl (by simp[Value.oneCell']) (by simp only[maxLen];omega) oM fV6.size ?_;intro v7 V7 hO7 hg7 _;obtain⟨a7,c7,rfl,-,-,-,-⟩:=oSl hO7;have fV7:Fq wz V7:=fV6.trans (ci0 (oN hO4 gV6) hg7) (fun b hb h=>oM);refine hK _ _ fV7 ?_;clear hK K;try simp only[Act.put,sI,sZ,sS]
       refine ay0 _ ?_ gF rF ?_ ?_;rotate_left
       ·intro V hV;go_simp;try with_reducible rfl
       refine ar0 ?_;refine NoPanic.normal ?_;try simp only[Act.put,sI,sZ,sS]
       have hle7:=fV7.size;have hR:=hi2 hO7 (FZ.out.trans fV7 nI);clear hV0 nV0 fV0 hV6 nV6 fV6 gV6 hO4 hg4 fV4 hO7 hg7 fV7
      rotate_left;focus
       try simp only[Act.put,sI,sZ,sS]
       refine az0 _ gF rF (fun K hK=>?_);go_simp;obtain⟨V6,hV6⟩:=eX (V0.alloc (.cells #[.int .u64 x.hash,.int .i64 x.rg,.int .i64 x.at_,.int .i64 x.sz] 110))
       have nV6:V6.heap[V0.heap.size]?=some (.cells #[.int .u64 x.hash,.int .i64 x.rg,.int .i64 x.at_,.int .i64 x.sz] 110):=(by rw[<- hV6];exact han V0 (.cells #[.int .u64 x.hash,.int .i64 x.rg,.int .i64 x.at_,.int .i64 x.sz] 110));have fV6:Fq wz V6:=(by rw[<- hV6];exact fV0.alloc _);have gV6:Fq V0 V6:=(by rw[<- hV6];exact (Fr.refl _ _).alloc _);rw[hV6];refine hK _ _ fV6 ?_;clear hK K;try simp only[Act.put,sI,sZ,sS]
       refine az0 _ gF rF (fun K hK=>?_);refine fP0 rfl (.tmp 42) (.tmp 45) 218 rfl wz.heap.size 110 i0 _ 4 32 Tryz.underlying218 hi0 hz0 hz1 hz2 rfl dC (.slice (some ⟨wz.heap.size,0,none⟩) 0 0) 0 [] rfl (mD0 (nR _) (gV6.heap nV0 id)) _ k ((es.flatMap btC).take (k*4)) rfl (HT.out _ fV6) (by rw[lT,bl0,HN.out];omega) (fun u hu=>gO0 u (lR9 hu)) (by simp only[maxLen];omega) oM fV6.size ?_;intro v4 V4 hO4 hg4;simp only[le9,lp9] at hO4;obtain⟨a4,c4,rfl,-,-,-,-⟩:=oSl hO4;have fV4:Fq wz V4:=qi0 fV6 hg4 (nR _);refine hK _ _ fV4 ?_;clear hK K;have nV6':V4.heap[V0.heap.size]?=some (.cells #[.int .u64 x.hash,.int .i64 x.rg,.int .i64 x.at_,.int .i64 x.sz] 110):=(Fr.of_grownBy hg4).heap nV6 (fun e=>by have e':V0.heap.size=wz.heap.size:=e;have:=loh nV0;omega);try simp only[Act.put,sI,sZ,sS]
       refine az0 _ gF rF (fun K hK=>?_);refine cy0 rfl (.tmp 46) (.tmp 48) 218 rfl wz.heap.size 110 i0 _ 4 32 Tryz.underlying218 hi0 hz0 hz1 hz2 rfl dC (.slice a4 k c4) k _ rfl hO4 ⟨V0.heap.size,0,none⟩ 1 1 (btC x) rfl (World.news_of_block nV6') rfl (by simp[Value.oneCell']) (by simp only[maxLen];omega) oM fV4.size ?_;intro v7 V7 hO7 hg7 _;obtain⟨a7,c7,rfl,-,-,-,-⟩:=oSl hO7;have fV7:Fq wz V7:=fV4.trans (ci0 hO4 hg7) (fun b hb h=>oM);refine hK _ _ fV7 ?_;clear hK K;try simp only[Act.put,sI,sZ,sS]
       refine ay0 _ ?_ gF rF ?_ ?_;rotate_left
       ·intro V hV;go_simp;try with_reducible rfl
       refine ar0 ?_;refine NoPanic.normal ?_;try simp only[Act.put,sI,sZ,sS]
       have hle7:=fV7.size;have hR:=hi2 hO7 (FZ.out.trans fV7 nI);clear hV0 nV0 fV0 hV6 nV6 nV6' fV6 gV6 hO4 hg4 fV4 hO7 hg7 fV7
     rotate_left 2;focus
      try simp only[Act.put,sI,sZ,sS]
      refine az0 _ gF rF (fun K hK=>?_);go_simp;obtain⟨V6,hV6⟩:=eX ((wz.alloc (.cells #[.int .u64 x.hash,.int .i64 x.rg,.int .i64 x.at_,.int .i64 x.sz] 110)).drew)
      have nV6:V6.heap[wz.heap.size]?=some (.cells #[.int .u64 x.hash,.int .i64 x.rg,.int .i64 x.at_,.int .i64 x.sz] 110):=(by rw[<- hV6];exact han wz (.cells #[.int .u64 x.hash,.int .i64 x.rg,.int .i64 x.at_,.int .i64 x.sz] 110));have fV6:Fq wz V6:=(by rw[<- hV6];exact ((Fr.refl _ _).alloc _).drew);rw[hV6];refine hK _ _ fV6 ?_;clear hK K;try simp only[Act.put,sI,sZ,sS]
      refine az0 _ gF rF (fun K hK=>?_);go_simp;obtain⟨V0,hV0⟩:=eX (V6.alloc (.cells #[] 110))
      have nV0:V0.heap[V6.heap.size]?=some (.cells #[] 110):=(by rw[<- hV0];exact han V6 (.cells #[] 110));have fV0:Fq wz V0:=(by rw[<- hV0];exact fV6.alloc _);have gV0:Fq V6 V0:=(by rw[<- hV0];exact (Fr.refl _ _).alloc _);rw[hV0];refine hK _ _ fV0 ?_;clear hK K;try simp only[Act.put,sI,sZ,sS]
      refine az0 _ gF rF (fun K hK=>?_);refine fP0 rfl (.tmp 42) (.tmp 45) 218 rfl wz.heap.size 110 i0 _ 4 32 Tryz.underlying218 hi0 hz0 hz1 hz2 rfl dC (.slice (some ⟨V6.heap.size,0,none⟩) 0 0) 0 [] rfl (mD0 fV6.size nV0) _ k ((es.flatMap btC).take (k*4)) rfl (HT.out _ fV0) (by rw[lT,bl0,HN.out];omega) (fun u hu=>gO0 u (lR9 hu)) (by simp only[maxLen];omega) oM fV0.size ?_;intro v4 V4 hO4 hg4;simp only[le9,lp9] at hO4;obtain⟨a4,c4,rfl,-,-,-,-⟩:=oSl hO4;have fV4:Fq wz V4:=qi0 fV0 hg4 fV6.size;refine hK _ _ fV4 ?_;clear hK K;have nV6':V4.heap[wz.heap.size]?=some (.cells #[.int .u64 x.hash,.int .i64 x.rg,.int .i64 x.at_,.int .i64 x.sz] 110):=(Fr.of_grownBy hg4).heap (gV0.heap nV6 id) (fun e=>by have e':wz.heap.size=V6.heap.size:=e;have:=loh nV6;omega);try simp only[Act.put,sI,sZ,sS]
      refine az0 _ gF rF (fun K hK=>?_);refine cy0 rfl (.tmp 46) (.tmp 48) 218 rfl wz.heap.size 110 i0 _ 4 32 Tryz.underlying218 hi0 hz0 hz1 hz2 rfl dC (.slice a4 k c4) k _ rfl hO4 ⟨wz.heap.size,0,none⟩ 1 1 (btC x) rfl (World.news_of_block nV6') rfl (by simp[Value.oneCell']) (by simp only[maxLen];omega) oM fV4.size ?_;intro v7 V7 hO7 hg7 _;obtain⟨a7,c7,rfl,-,-,-,-⟩:=oSl hO7;have fV7:Fq wz V7:=fV4.trans (ci0 hO4 hg7) (fun b hb h=>oM);refine hK _ _ fV7 ?_;clear hK K;try simp only[Act.put,sI,sZ,sS]
      refine ay0 _ ?_ gF rF ?_ ?_;rotate_left
      ·intro V hV;go_simp;try with_reducible rfl
      refine ar0 ?_;refine NoPanic.normal ?_;try simp only[Act.put,sI,sZ,sS]
      have hle7:=fV7.size;have hR:=hi2 hO7 (FZ.out.trans fV7 nI);clear hV0 nV0 fV0 hV6 nV6 nV6' fV6 gV0 hO4 hg4 fV4 hO7 hg7 fV7
     all_goals
      go_wp2_with (at_builtin;refine ag0 rfl (.tmp 50) (.tmp 53) 218 rfl wz.heap.size 110 i0 _ 4 32 Tryz.underlying218 hi0 hz0 hz1 hz2 rfl dC _ (k+1) _ rfl hR.out.1 (.slice a2 (n-k) (c3-k)) (n-k) _ rfl (HF2.out _ hR.out.2) (by rw[lv9,bl0,HN.out];omega) (fun u hu=>gO0 u (ml9 hu)) (by simp only[maxLen];omega) oM hle7 ?_)
      intro v8 V8 hO8 hg8 _;rw[show k+1+(n-k)=n+1 by omega] at hO8;obtain⟨a8,c8,rfl,-,-,-,-⟩:=oSl hO8;have hle:=nT HLe.out FZ.out.size;have H8:=hi2 hO8 (H4.out.2.trans (hR.out.2.trans (ci0 hR.out.1 hg8) (fun b hb h=>by have:=FZ.out.size;omega) (S:=fun _=>False)) nI);have HLe2:=hid hle;clear hO8 hg8 hle7 hle;obtain⟨⟨x0,x1,x2,xz,xl⟩,-,⟨y0,y1,y2,yz,yl⟩⟩:=HC.out _ H8.out.2;go_wp2_with fail
      refine bodyPost_ret (v:=rbV d p (.slice a8 (n+1) c8)) sR rfl ?_;rw[HP.out];have hIL:(hZ0 es k x).length=n+1:=(by rw[gq0 (by rw[HN.out];omega),HN.out]);refine vD0 HZ.out (HF.out.trans H8.out.2 nI) (H8.out.2.heap HB.out.1 id) (H8.out.2.heap HB.out.2.2 id) ?_ hIL rfl;unfold cF0;rw[hIL,fc0];have:=H8.out.1;rw[mr0,jS0] at this;exact ac0 this (by have:=HS.out;have:=HLe2.out;omega)
theorem qB0 {α:Type}{f:α->List Value}(hf:∀ x,(f x).length=s)(l:List α):(l.flatMap f).length=l.length*s:=by
 induction l with
 | nil=>simp
 | cons x l ih=>rw[lj9,lA,ih,hf,lC,lZ9,Nat.add_comm]
theorem di0 {α:Type}{f:α->List Value}(hf:∀ x,(f x).length=s)(l:List α):∀ (k j:Nat) (x:α),l[k]?=some x->j<s->(l.flatMap f)[k*s+j]?=(f x)[j]?:=by
 induction l with
 | nil=>intro k j x h;simp at h
 | cons y l ih =>
  intro k j x h hj;cases k with
  | zero =>
   simp at h;subst h;rw[lj9,mr9,lp9,lh9 (by rw[hf];exact hj)]
  | succ k =>
   rw[gS] at h;rw[lj9,lk9 (by rw[hf,lZ9];omega),hf,show (k+1)*s+j-s=k*s+j by rw[lZ9];omega];exact ih k j x h hj
theorem wO0 {α:Type}{f:α->List Value}(hf:∀ x,(f x).length=s)(l:List α):∀ k:Nat,(l.flatMap f).take (k*s)=(l.take k).flatMap f:=by
 induction l with
 | nil=>intro k;simp
 | cons x l ih =>
  intro k;cases k with
  | zero=>simp
  | succ k=>rw[lj9,mY9,lj9,<- ih k,List.take_append,hf,tL (by rw[hf,lZ9];omega),show (k+1)*s-s=k*s by rw[lZ9];omega]
theorem wP0 {α:Type}{f:α->List Value}(hf:∀ x,(f x).length=s)(l:List α):∀ k:Nat,(l.flatMap f).drop (k*s)=(l.drop k).flatMap f:=by
 induction l with
 | nil=>intro k;simp
 | cons x l ih =>
  intro k;cases k with
  | zero=>simp
  | succ k=>rw[lj9,List.drop_succ_cons,<- ih k,List.drop_append,hf,ng9 (by rw[hf,lZ9];omega),show (k+1)*s-s=k*s by rw[lZ9];omega,le9]
structure Rb where
 d:Nat
 p:Nat
 a:Option Addr
 c:Nat
 es:List Bt
abbrev Rb.v (x:Rb):Value:=.slice x.a x.es.length x.c
def rbC (x:Rb):List Value:=[.int .i64 x.d,.int .i64 x.p,x.v]
theorem dS0 (x:Rb):(rbC x).length=3:=rfl
def Rb.key (x:Rb):Nat × Nat × List Bt:=(x.d,x.p,x.es)
abbrev Lb:=List (Nat × Nat × List Bt)
def OwnB (w:World)(base:Nat)(v:Value)(l:Lb):Prop:=∃ xs:List Rb,xs.map Rb.key=l/\w.ownsRow base 220 3 v xs.length (xs.flatMap rbC)/\∀ x ∈ xs,cF0 w 0 x.v x.es
abbrev ixV (g most slots:Int)(v:Value)(sp:Int):Value:=.agg #[.int .i64 g,.int .i64 most,.int .i64 slots,v,.int .i64 sp]
theorem OwnB.fr {w':World}{v:Value}{l:Lb}(h:OwnB w base v l)(F:Fq w w'):OwnB w' base v l:=by
 obtain⟨xs,h1,h2,h3⟩:=h;exact⟨xs,h1,oN h2 F,fun x hx=>oN (h3 x hx) F⟩
theorem ir0 {n:Nat}{xs:List Rb}(h:w.ownsRow base 220 3 (.slice a n c) n (xs.flatMap rbC)){x:Rb}(hx:xs[k]?=some x) :
  ∃ g,a=some ⟨g,0,none⟩/\g<w.heap.size/\w.cell? ⟨g,k*3,none⟩=some (.int .i64 x.d)/\w.cell? ⟨g,k*3+1,none⟩=some (.int .i64 x.p)/\w.cell? ⟨g,k*3+2,none⟩=some x.v:=by
 obtain⟨g,e,hg,h0⟩:=al0 h (di0 dS0 xs k 0 x hx dC);obtain⟨g1,e1,_,h1⟩:=al0 h (di0 dS0 xs k 1 x hx dC);obtain⟨g2,e2,_,h2⟩:=al0 h (di0 dS0 xs k 2 x hx dC);rw[e] at e1 e2;cases e1;cases e2;exact⟨g,e,hg,h0,h1,h2⟩
theorem Tryz.wJ0:(Tryz.prog.info? 220).map (fun i=>(i.zero,i.size,i.bytes))=some (some (.agg #[.int .i64 0,.int .i64 0,.slice none 0 0]),3,40):=by kernel_rfl
def dL0 (h:Nat)(b:Nat × Nat × List Bt):Bool:=decide (aY0 h b.1=b.2.1)
theorem sx0 {v:Value}{l:Lb}(hB:OwnB w 0 v l)(hl:l.length<=60000)(g most slots sp:Int)(h:Nat)(hh:h<18446744073709551616)(hd:∀ b ∈ l,b.1<=20){i:Nat}(hi:l.findIdx? (dL0 h)=some i) :
  Calls Tryz.prog 205 #[ixV g most slots v sp,.int .u64 h] w (FdP i w):=by
 obtain⟨xs,rfl,hR,-⟩:=hB;obtain⟨va,vc,rfl,-,-,-,-⟩:=oSl hR;obtain⟨n,hn⟩:=eX xs.length
 obtain⟨w1,hw1⟩:=eX (w.alloc (.cells #[.int .i64 g,.int .i64 most,.int .i64 slots,.slice va n vc,.int .i64 sp] 137))
 obtain⟨z,hz⟩:=eX w.heap.size
 have F1:Fq w w1:=by rw[<- hw1];exact (Fr.refl _ _).alloc _
 have b0:w1.heap[z]?=some (.cells #[.int .i64 g,.int .i64 most,.int .i64 slots,.slice va n vc,.int .i64 sp] 137):=by rw[<- hw1,<- hz];exact han _ _
 have hR1:=oN hR F1;have hIH:i<n/\(∀ x,xs[i]?=some x->aY0 h x.d=x.p)/\∀ k x,k<i->xs[k]?=some x->aY0 h x.d≠x.p:=by
  rw[lg9] at hi;obtain⟨h1,h2,h3⟩:=hi;rw[ln9] at h1;refine⟨oM,fun x hx=>?_,fun k x hk hx=>?_⟩
  ·obtain⟨_,e⟩:=gI.1 hx;simpa[dL0,e,Rb.key] using h2
  ·obtain⟨_,e⟩:=gI.1 hx;simpa[dL0,e,Rb.key] using h3 k hk
 have hdd:∀ (k:Nat) (x:Rb),xs[k]?=some x->x.d<=20:=fun k x hx=>hd x.key (ld9.2 ⟨x,gM hx,rfl⟩)
 rw[ln9,hn] at hl;rw[hn] at hR1 ⊢;have HC0:=hid (fun V (F:Fq w1 V)=>cells5 (F.heap b0 id));have HR:=hid hR1;have HN:=hid hn;have HF:=hid F1;have HW:=hid hw1;have HI:=hid hIH;have HD:=hid hdd;have HZ:=hid hz;have hin:=hIH.1;obtain⟨x0,x1,x2,x3,x4,xz,xl⟩:=HC0.out _ (Fr.refl _ _);clear hR hn F1 hw1 b0 hR1 hIH hdd hd hi hz;go_enter Tryz.func205,Tryz.ntmps205;go_upto_region 1 with fail
 rw[HW.out];try simp only[HZ.out]
 clear x0 x1 x2 x3 x4 xz xl;go_wp2_with fail
 go_loopw [5] (fun iv wr=>∃ k:Nat,k<=i/\iv = .int .i64 k/\Fq w1 wr) (fun iv _=>n-(intOf iv).toNat)
 case atStart=>exact⟨0,la9 _,rfl,Fr.refl _ _⟩
 case round =>
  obtain⟨k,hk,rfl,hF⟩:=hrel;have hd:decide ((k:Int)<(n:Int))=true:=by simp;omega
  have hki:(k:Int)<(n:Int):=oM
  have hkw:wrap64 ((k:Int)+1)=((k+1:Nat):Int):=bM0 oM;obtain⟨x,hx⟩:∃ x,xs[k]?=some x:=⟨_,gE (by rw[HN.out];omega)⟩
  obtain⟨gb,rfl,hg,c0,c1,-⟩:=ir0 (oN HR.out hF) hx;have HX:=hid hx;have HFr:=hid hF;have HP:=hid (fun V=>sg0 h x.d hh (nT (HD.out k x HX.out) dC) V);have HC:=hid (fun V (F:Fq wr V)=>aI (HC0.out V (HFr.out.trans F nI)) (aI ((F.cell (p:=⟨gb,k*3,none⟩) hg id).trans c0) (aI ((F.cell (p:=⟨gb,k*3+1,none⟩) hg id).trans c1) (nLL hg F.size))));obtain⟨⟨x0,x1,x2,x3,x4,xz,xl⟩,-⟩:=HC.out _ (Fr.refl _ _);have FD:=(Fr.refl (fun _=>False) wr).drew;clear hx hF c0 c1 hg;go_upto_region 4 with fail
  clear x0 x1 x2 x3 x4;refine wp_region_noPanic ?_;refine aq0 (fun V=>Fq wr V) (.rd 0 (.rd 1 (.rd 2 (.rd 3 (.rd 4 (.rd 5 (.rd 6 (.rd 8 (.rd 9 (.rd 10 (.rd 11 (.rd 12 (.rd 13 (.op 7 (.rd 14 .done))))))))))))))) kF kF kF (fun _ _ _ _ _ h=>h) FD ?_;iterate 13
   try simp only[Act.put,sI,sZ,sS]
   refine ay0 _ ?_ gF rF ?_ ?_;rotate_left
   ·intro V hV;obtain⟨⟨x0,x1,x2,x3,x4,xz,xl⟩,e0,e1,eg⟩:=HC.out V hV;go_simp;try with_reducible rfl
  try simp only[Act.put,sI,sZ,sS]
  refine az0 _ gF rF (fun K hK=>?_);go_simp
  (with_reducible refine (HP.out _).mono ?_)
  rintro _ V1 ⟨rfl,G1⟩;have F1:=FD.trans G1 nI;refine hK _ _ F1 ?_;clear hK K;try simp only[Act.put,sI,sZ,sS]
  refine ay0 _ ?_ gF rF ?_ ?_;rotate_left
  ·intro V hV;go_simp;try with_reducible rfl
  refine ar0 ?_;refine NoPanic.normal ?_;try simp only[Act.put,sI,sZ,sS]
  have H1:=hid (HFr.out.trans F1 nI);clear F1 G1 FD;rcases lV9 k i with hlt|hge
  ·have heb:(((aY0 h x.d:Nat):Int) == ((x.p:Nat):Int))=false:=by rw[el0];exact decide_eq_false (HI.out.2.2 k x hlt HX.out)
   go_wp2_with fail
   go_roundw;case rel=>exact⟨k+1,hlt,by go_num,H1.out⟩
   case measure=>simp[intOf];omega
  ·obtain rfl:k=i:=by omega
   have heb:(((aY0 h x.d:Nat):Int) == ((x.p:Nat):Int))=true:=by rw[el0];exact decide_eq_true (HI.out.2.1 x HX.out)
   go_wp2_with fail
   go_ret;exact⟨rfl,HF.out.trans H1.out nI⟩
end
section
open Go.RowKit Go.Sg Go.Sg.Bits Go.Sg.Clk CP SF
def tkR (l:List Rf):Nat->Bool:=fun k=>l.any fun r=>decide (r.1=(k:Int))
variable {l:List Rf}{r:Rf}{m:Nat}
theorem vq0 (h:r ∈ l):tkR (l++[r])=tkR l:=by
 funext k
 simp only[tkR,List.any_append,List.any_cons,List.any_nil,Bool.or_false];by_cases e:r.1=(k:Int)
 ·rw[decide_eq_true e,Bool.or_true,eq_comm,md9];exact⟨r,h,decide_eq_true e⟩
 ·rw[decide_eq_false e,Bool.or_false]
theorem ob0 (l:List Rf)(hm:r.1=m):upd (tkR l) m true=tkR (l++[r]):=by
 funext k
 by_cases h:k=m
 ·subst h;simp[upd,tkR,hm]
 ·have h':¬ (m:Int)=k:=by omega
  simp[upd,tkR,hm,h,h']
theorem ze0 (h:∀ q ∈ l,q.1≠(m:Int)):tkR l m=false:=by
 unfold tkR;rw[mt9];exact fun q hq=>by simpa using h q hq
def wq0 (l:List Rf):Prop:=∀ (i:Nat) (r:Rf),l[i]?=some r->(∃ j,i=j+1/\l[j]?=some r)\/∀ (j:Nat) (q:Rf),j<i->l[j]?=some q->q.1≠r.1
def zB0 (B:Blk)(y:Cs)(P:aC0)(a:Bool)(N:Nat)(l:List Rf)(w:World)(e:Ending)(w':World):Prop:=
 e = .returned (.int .i64 0)/\FrB B w w'/\aw0 w' B { y with taken:=tkR l } P a N
theorem vk0 {w:World}{B:Blk}{y:Cs}{P:aC0}{a:Bool}{N:Nat}(h:aw0 w B { y with taken:=tkR [] } P a N){v:Value}{b0:Nat}(hR:dC0 w b0 v l)(hl:l.length<=1000)(hp:∀ r ∈ l,0<=r.1/\r.1<y.pages)(hrun:wq0 l) :
  Calls Tryz.prog 150 #[B.ptr,v] w (zB0 B y P a N l w):=by
 obtain⟨va,vc,rfl,-,-,-,-⟩:=oSl hR;obtain⟨n,hn⟩:=eX l.length
 have h0:0<w.heap.size:=by have:=h.base;have:=h.bs0;omega
 rw[hn] at hl ⊢;have HR:=hid hR;have HN:=hid hn;have HP:=hid hp;have HU:=hid hrun;have HS:=hid h;clear hR hn hp hrun h;go_enter Tryz.func150,Tryz.ntmps150;go_wp2_with fail
 go_loopw [10] (fun iv wr=>∃ k:Nat,k<=n/\iv = .int .i64 k/\aw0 wr B { y with taken:=tkR (l.take k) } P a N/\FrB B w wr) (fun iv _=>n-(intOf iv).toNat)
 case atStart=>exact⟨0,la9 _,rfl,by rw[List.take_zero];exact HS.out,FrB.refl _ _⟩
 case round =>
  obtain⟨k,hk,rfl,hS,hF⟩:=hrel;by_cases hlt:k<n
  ·have hd:decide ((k:Int)<(n:Int))=true:=by simp;omega
   have hki:(k:Int)<(n:Int):=oM
   have hkw:wrap64 ((k:Int)+1)=((k+1:Nat):Int):=bM0 oM;obtain⟨r,hr⟩:∃ r,l[k]?=some r:=⟨_,gE (by rw[HN.out];exact hlt)⟩
   have hRw:=fX0 HR.out dC hF;rw[HN.out] at hRw;have hcell:=fun (j:Nat) (q:Rf) (hq:l[j]?=some q)=>aI (al0 hRw (di0 (f:=dB0) (s:=2) (fun _=>rfl) l j 0 q hq dC)) (al0 hRw (di0 (f:=dB0) (s:=2) (fun _=>rfl) l j 1 q hq dC))
   obtain⟨⟨g,rfl,hg,c0⟩,g',e',-,c1⟩:=hcell k r hr;cases e';have c0:wr.cell? ⟨g,k*2,none⟩=some (.int .i64 r.1):=c0;have c1:wr.cell? ⟨g,k*2+1,none⟩=some (.int .i64 r.2):=c1;obtain⟨s,hs⟩:=eX wr.heap.size
   have hs0:0<s:=by rw[<- hs];exact nLL h0 hF.size
   obtain⟨V3,hV3⟩:=eX (wr.alloc (.cells #[.int .i64 r.1,.int .i64 r.2] 35))
   have b3:V3.heap[s]?=some (.cells #[.int .i64 r.1,.int .i64 r.2] 35):=by rw[<- hV3,<- hs];exact han _ _
   have F3:Fq wr V3:=by rw[<- hV3];exact (Fr.refl _ _).alloc _
   have HS3:=hid (hS.fr0 F3);have HF3:=hid (FrB.trans hF (FrB.none F3));have HC:=hid (fun (j:Nat) (q:Rf) (hq:l[j]?=some q)=>aI ((F3.cell (p:=⟨g,j*2,none⟩) hg id).trans (by obtain⟨⟨g',e',-,c⟩,-⟩:=hcell j q hq;cases e';exact c)) ((F3.cell (p:=⟨g,j*2+1,none⟩) hg id).trans (by obtain⟨-,g',e',-,c⟩:=hcell j q hq;cases e';exact c)));have HV3:=hid hV3;have HSs:=hid hs;have HX:=hid hr;obtain⟨y0,y1,yz,yl⟩:=cells2 b3;have HY:=hi2 y0 (aI y1 (aI yz yl));have HG:=hi2 hg F3.size;clear hS hF hRw hcell hV3 F3 b3 hs hr y0 y1 yz yl;go_upto_region 4 with fail
   rw[HV3.out];try simp only[HSs.out]
   clear c0 c1 hg;obtain⟨y0,y1,yz,yl⟩:=HY.out;rcases HU.out k r HX.out with⟨j,rfl,hj⟩|hno
   ·have hd0:decide ((0:Int)<((j+1:Nat):Int))=true:=sP;have hjw:wrap64 (((j+1:Nat):Int)-1)=(j:Int):=(by simp only[wrap64];omega);have hji:(j:Int)<(n:Int):=oM;obtain⟨a0,a1⟩:=HC.out j r hj;have hgl:g<V3.heap.size:=nLL HG.out.1 HG.out.2;have hE:∀ W,(binOp .eql 35 (.agg #[.int .i64 r.1,.int .i64 r.2]) (.agg #[.int .i64 r.1,.int .i64 r.2])).run Tryz.prog W = .ok (.bool true) W:=fun W=>by rw[nP0];simp
    go_quiet (fail)
    go_wp2_with fail
    go_roundw;case rel=>exact⟨j+1+1,hlt,by go_num,by rw[lw9,HX.out];show aw0 _ B { y with taken:=tkR (l.take (j+1)++[r]) } P a N;rw[vq0 (gM (i:=j) (by rw[gT,if_pos oM];exact hj))];exact HS3.out.fr0 ((Fr.refl _ _).drewN _),FrB.trans HF3.out (FrB.none ((Fr.refl _ _).drewN _))⟩
    case measure=>simp[intOf];omega
   ·obtain⟨hp0,hp1⟩:=HP.out r (gM HX.out);obtain⟨m,hm⟩:=iZ hp0;have HMk:=hid (fun V (F:Fq V3 V)=>yA0 (HS3.out.fr0 F) m r.2 (by show m<y.pages;omega) (ze0 (fun q hq=>by
     obtain⟨j,hj⟩:=lC9.1 hq;rw[gT] at hj;split at hj
     ·rw[<- hm];exact hno j q (by assumption) hj
     ·cases hj)))
    have HM:=hid hm;rw[<- hm] at HMk;clear hm;by_cases hk0:k=0
    ·subst hk0;have hd0:decide ((0:Int)<((0:Nat):Int))=false:=sP;clear hno;go_quiet (fail)
     go_wp2_with fail
     focus
      have H4:=hid ((Fr.refl (fun _=>False) V3).drewN nq)
      (with_reducible refine (HMk.out _ H4.out).mono ?_)
      rintro _ V5 ⟨rfl,hS5,F5⟩;have H5:=hi2 hS5 (FrB.trans HF3.out (FrB.trans (FrB.none H4.out) F5));clear hS5 F5;go_wp2_with fail
      go_roundw;case rel=>exact⟨0+1,hlt,by go_num,by rw[lw9,HX.out];show aw0 V5 B { y with taken:=tkR (l.take (0)++[r]) } P a N;rw[<- ob0 _ HM.out];exact H5.out.1,H5.out.2⟩
      case measure=>simp[intOf];omega
    ·obtain⟨j,rfl⟩:∃ j,k=j+1:=⟨k-1,oM⟩
     have hd0:decide ((0:Int)<((j+1:Nat):Int))=true:=sP;have hjw:wrap64 (((j+1:Nat):Int)-1)=(j:Int):=(by simp only[wrap64];omega);have hji:(j:Int)<(n:Int):=oM;obtain⟨q,hq⟩:∃ q,l[j]?=some q:=⟨_,gE (by rw[HN.out];omega)⟩
     obtain⟨a0,a1⟩:=HC.out j q hq;have hgl:g<V3.heap.size:=nLL HG.out.1 HG.out.2;have hqr:=hno j q oM hq;have hE:∀ W,(binOp .eql 35 (.agg #[.int .i64 q.1,.int .i64 q.2]) (.agg #[.int .i64 r.1,.int .i64 r.2])).run Tryz.prog W = .ok (.bool false) W:=fun W=>by rw[nP0,decide_eq_false hqr];rfl
     clear hno hqr hq;go_quiet (fail)
     go_wp2_with fail
     focus
      have H4:=hid ((Fr.refl (fun _=>False) V3).drewN nq)
      (with_reducible refine (HMk.out _ H4.out).mono ?_)
      rintro _ V5 ⟨rfl,hS5,F5⟩;have H5:=hi2 hS5 (FrB.trans HF3.out (FrB.trans (FrB.none H4.out) F5));clear hS5 F5;go_wp2_with fail
      go_roundw;case rel=>exact⟨j+1+1,hlt,by go_num,by rw[lw9,HX.out];show aw0 V5 B { y with taken:=tkR (l.take (j+1)++[r]) } P a N;rw[<- ob0 _ HM.out];exact H5.out.1,H5.out.2⟩
      case measure=>simp[intOf];omega
  ·obtain rfl:k=n:=by omega
   have hd:decide ((k:Int)<(k:Int))=false:=by simp
   have HE:=hi2 hF (show aw0 wr B { y with taken:=tkR l } P a N by rw[tL (by rw[HN.out];exact nR _)] at hS;exact hS);clear hS hF;go_wp2_with fail
   go_ret;exact⟨rfl,HE.out.1,HE.out.2⟩
