/- A pack of texts. Conditions: those that each names. -/
import Derived.Test.YtgdhaaokolfdoaaGreatDoorNBF
set_option maxHeartbeats 16000000
set_option maxRecDepth 100000
set_option linter.all false
namespace Go.Proofs.YtgdhaaokolfdoaaGreatDoor
open Go.RowKit Go.Sg CP SF
abbrev cF0 (w:World)(base:Nat)(v:Value)(es:List Bt):Prop:=w.ownsRow base 110 4 v es.length (es.flatMap btC)
variable {w:World}{base c h k m n:Nat}{a:Option Addr}{x:Bt}{v:Value}
theorem cw0 {l:List Bt}(h:w.ownsRow base 110 4 (.slice a n c) n (l.flatMap btC))(hx:l[k]?=some x) :
  ∃ g,a=some ⟨g,0,none⟩/\g<w.heap.size/\w.cell? ⟨g,k*4,none⟩=some (.int .u64 x.hash)/\w.cell? ⟨g,k*4+1,none⟩=some (.int .i64 x.rg)/\w.cell? ⟨g,k*4+2,none⟩=some (.int .i64 x.at_)/\w.cell? ⟨g,k*4+3,none⟩=some (.int .i64 x.sz):=by
 obtain⟨f0,f1,f2,f3⟩:=vV0 l k x hx;obtain⟨g,e,hg,h0⟩:=al0 h f0;obtain⟨g1,e1,_,h1⟩:=al0 h f1;obtain⟨g2,e2,_,h2⟩:=al0 h f2;obtain⟨g3,e3,_,h3⟩:=al0 h f3;rw[e] at e1 e2 e3;cases e1;cases e2;cases e3;exact⟨g,e,hg,h0,h1,h2,h3⟩
theorem Tryz.jD0:(Tryz.prog.info? 110).map (fun i=>(i.zero,i.size,i.bytes))=some (some (.agg #[.int .u64 0,.int .i64 0,.int .i64 0,.int .i64 0]),4,32):=by kernel_rfl
abbrev rbV (d p:Int)(v:Value):Value:=.agg #[.int .i64 d,.int .i64 p,v]
theorem bM0 (h:m<1000000):wrap64 ((m:Int)+1)=((m+1:Nat):Int):=by simp only[wrap64];omega
def fdI (es:List Bt)(h:Nat):Int:=match es.findIdx? (fun x=>decide (x.hash=h)) with
 | some i=>i
 | none=>-1
variable {es:List Bt}
theorem nN0 (hx:es[k]?=some x)(he:x.hash=h)(hn:∀ j y,j<k->es[j]?=some y->y.hash≠h):fdI es h=k:=by
 have:es.findIdx? (fun x=>decide (x.hash=h))=some k:=by
  obtain⟨hk,e⟩:=gI.1 hx;rw[lg9];refine⟨hk,by rw[e];simpa using he,fun j hj=>?_⟩;have:=hn j es[j] hj (gE _);simpa using this
 unfold fdI;rw[this]
theorem nO0 (hn:∀ j y,j<es.length->es[j]?=some y->y.hash≠h):fdI es h = -1:=by
 have:es.findIdx? (fun x=>decide (x.hash=h))=none:=by
  rw[lE9];intro x hx;obtain⟨j,hj⟩:=lC9.1 hx;have:=hn j x (gI.1 hj).1 hj;simpa using this
 unfold fdI;rw[this]
def FdP (z:Int)(w:World)(e:Ending)(w':World):Prop:=e = .returned (.int .i64 z)/\Fq w w'
theorem gi0 (hE:cF0 w 0 v es)(hl:es.length<=65535)(d p:Int)(h:Nat):Calls Tryz.prog 206 #[rbV d p v,.int .u64 h] w (FdP (fdI es h) w):=by
 obtain⟨va,vc,rfl,-,-,-,-⟩:=oSl hE;obtain⟨n,hn⟩:=eX es.length
 obtain⟨w1,hw1⟩:=eX (w.alloc (.cells #[.int .i64 d,.int .i64 p,.slice va n vc] 220))
 have F1:Fq w w1:=by rw[<- hw1];exact (Fr.refl _ _).alloc _
 have b0:w1.heap[w.heap.size]?=some (.cells #[.int .i64 d,.int .i64 p,.slice va n vc] 220):=by rw[<- hw1];exact han _ _
 have hE1:=oN hE F1;rw[hn] at hE1 hl ⊢;obtain⟨x0,x1,x2,xz,xl⟩:=cells3 b0;have HE:=hid hE1;have HN:=hid hn;have HF:=hid F1;have HW:=hid hw1;clear hE hE1 hn F1 hw1 b0;go_enter Tryz.func206,Tryz.ntmps206;go_upto_region 1 with fail
 rw[HW.out];go_wp2_with fail
 go_loopw [5] (fun i wr=>∃ k:Nat,k<=n/\i = .int .i64 k/\wr=w1/\∀ j y,j<k->es[j]?=some y->y.hash≠h) (fun i _=>n-(intOf i).toNat)
 case atStart=>exact⟨0,la9 _,rfl,rfl,fun j y hj=>oM⟩
 case round =>
  obtain⟨k,hk,rfl,rfl,hno⟩:=hrel;by_cases hlt:k<n
  ·have hd:decide ((k:Int)<(n:Int))=true:=by simp;omega
   have hki:(k:Int)<(n:Int):=oM
   have hkw:wrap64 ((k:Int)+1)=((k+1:Nat):Int):=bM0 oM;obtain⟨x,hx⟩:∃ x,es[k]?=some x:=⟨_,gE (by rw[HN.out];exact hlt)⟩
   obtain⟨g,rfl,hg,c0,-⟩:=cw0 HE.out hx;have HX:=hi2 hx hno;clear hx hno;by_cases he:x.hash=h
   ·have heb:((x.hash:Int) == (h:Int))=true:=(by rw[he];simp);have HR:=hid (nN0 HX.out.1 he HX.out.2);clear he;go_wp2_with fail
    go_ret;refine⟨?_,HF.out⟩;rw[HR.out];rfl
   ·have heb:((x.hash:Int) == (h:Int))=false:=by
     have:¬ (x.hash:Int)=(h:Int):=oM;simpa using this
    have HNe:=hid he;clear he;go_wp2_with fail
    go_roundw;case rel=>exact⟨k+1,hlt,by go_num,by first|rfl|trivial,fun j y hj hy=>by
     by_cases e:j=k
     ·subst e;rw[HX.out.1] at hy;cases hy;exact HNe.out
     ·exact HX.out.2 j y oM hy⟩
    case measure=>simp[intOf];omega
  ·obtain rfl:k=n:=by omega
   have hd:decide ((k:Int)<(k:Int))=false:=by simp
   have HR:=hid (nO0 (h:=h) (by rw[HN.out];exact hno));clear hno;go_wp2_with fail
   go_ret;refine⟨?_,HF.out⟩;rw[HR.out];rfl
def RbP (d p:Int)(es:List Bt)(w:World)(e:Ending)(w':World):Prop:=∃ a c,e = .returned (rbV d p (.slice a es.length c))/\cF0 w' w.heap.size (.slice a es.length c) es/\Fq w w'
def dv0 (h:Nat)(x:Bt):Bool:=!decide (x.hash=h)
theorem gC0 (hx:es[k]?=some x)(f:Bt->Bool):(es.take (k+1)).filter f=if f x=true then (es.take k).filter f++[x] else (es.take k).filter f:=by
 have h:es.take (k+1)=es.take k++[x]:=by rw[lw9,hx];rfl
 rw[h,lP9];cases hf:f x <;> simp[hf]
theorem aB0 {e size g:Nat}{xs:List Value}(h:w.ownsRow base e size v n xs)(hg:v.ownBlock=some g):base<=g/\∃ c,w.heap[g]?=some (.cells c e):=by
 obtain⟨_,⟨h1,_⟩|⟨g',cap,cur,h1,hb,hgc,_⟩⟩:=h
 ·rw[h1] at hg;cases hg
 ·rw[h1] at hg;cases hg;exact⟨hb,cur,hgc⟩
theorem vG0 {w1 wr:World}{d p:Int}{c0 c4:Array Value}(hs:w1.heap.size=w.heap.size+2)(hw:Fq w w1)(h0:w1.heap[w.heap.size]?=some (.cells c0 220))(h4:w1.heap[w.heap.size+1]?=some (.cells c4 220))(hF:Fq w1 wr)(hm:es.length=m)(hO:cF0 wr w1.heap.size (.slice a es.length c) es) :
  RbP d p es w (.returned (rbV d p (.slice a m c))) ((((wr.setCell ⟨w.heap.size,2,none⟩ (.slice a m c)).setCell ⟨w.heap.size+1,0,none⟩ (.int .i64 d)).setCell ⟨w.heap.size+1,1,none⟩ (.int .i64 p)).setCell ⟨w.heap.size+1,2,none⟩ (.slice a m c)):=by
 subst hm;obtain⟨W',hW⟩:=eX (((((wr.setCell ⟨w.heap.size,2,none⟩ (.slice a es.length c)).setCell ⟨w.heap.size+1,0,none⟩ (.int .i64 d)).setCell ⟨w.heap.size+1,1,none⟩ (.int .i64 p)).setCell ⟨w.heap.size+1,2,none⟩ (.slice a es.length c)))
 rw[hW];have F:Fr (fun b=>b=w.heap.size\/b=w.heap.size+1) wr W':=by
  rw[<- hW];with_reducible (repeat (first|exact Fr.refl _ _|refine Fr.setCell ?_ (fun _=>by simp) _))
 refine⟨a,c,rfl,oRf (ac0 hO oM) F (fun g c' hg e=>?_),(hw.trans hF nI).trans F (fun b hb e=>oM)⟩;rcases e with e|e
 ·rw[e,hF.heap h0 id] at hg;cases hg
 ·rw[e,hF.heap h4 id] at hg;cases hg
theorem sr0 (hE:cF0 w 0 v es)(hl:es.length<=65535)(d p:Int)(h:Nat):Calls Tryz.prog 208 #[rbV d p v,.int .u64 h] w (RbP d p (es.filter (dv0 h)) w):=by
 obtain⟨va,vc,rfl,-,-,-,-⟩:=oSl hE;obtain⟨n,hn⟩:=eX es.length
 obtain⟨w1,hw1⟩:=eX ((w.alloc (.cells #[.int .i64 d,.int .i64 p,.slice va n vc] 220)).alloc (.cells #[.int .i64 0,.int .i64 0,.slice none 0 0] 220))
 obtain⟨b0,b4,F1⟩:=ai0 hw1;have hE1:=oN hE F1;have hs1:w1.heap.size=w.heap.size+2:=by rw[<- hw1];simp
 rw[hn] at hE1 hl ⊢;have HE:=hid hE1;have HN:=hid hn;have HF:=hid F1;have HW:=hid hw1;have HS:=hid hs1;have HB:=hi2 b0 b4;obtain⟨i0,hi0,hz0,hz1,hz2⟩:=info_parts Tryz.jD0;clear hE hE1 hn F1 hw1 b0 b4 hs1;go_enter Tryz.func208,Tryz.ntmps208;go_upto_region 1 with fail
 rw[HW.out];go_wp2_with fail
 go_loopw [5,6] (fun vv i wr=>∃ (k:Nat) (a:Option Addr) (c:Nat),k<=n/\i = .int .i64 k/\vv = .slice a ((es.take k).filter (dv0 h)).length c/\cF0 wr w1.heap.size (.slice a ((es.take k).filter (dv0 h)).length c) ((es.take k).filter (dv0 h))/\Fq w1 wr) (fun _ i _=>n-(intOf i).toNat)
 case atStart=>exact⟨0,none,0,la9 _,rfl,rfl,World.ownsRow_nil _ _ _ _,Fr.refl _ _⟩
 case round =>
  obtain⟨k,a,c,hk,rfl,rfl,hO,hF⟩:=hrel;obtain⟨x0,x1,x2,xz,xl⟩:=cells3 (hF.heap HB.out.1 id);have HO:=hid hO;have HF2:=hid hF;obtain⟨m,hm⟩:=eX (((es.take k).filter (dv0 h)).length)
  have hm5:m<=65535:=by rw[<- hm];exact nT (lD9 _ _) (by rw[lT];omega)
  have HM:=hid hm;rw[hm];by_cases hlt:k<n
  ·have hd:decide ((k:Int)<(n:Int))=true:=by simp;omega
   have hki:(k:Int)<(n:Int):=oM
   have hkw:wrap64 ((k:Int)+1)=((k+1:Nat):Int):=bM0 oM;obtain⟨x,hx⟩:∃ x,es[k]?=some x:=⟨_,gE (by rw[HN.out];exact hlt)⟩
   obtain⟨g,rfl,hg,c0,c1,c2,c3⟩:=cw0 (oN HE.out hF) hx;have HX:=hid hx;have hst:=gC0 hx (dv0 h);have HST:=hid hst;have hwr:=hF.size;clear hO hF hm hx hst;cases hfx:dv0 h x with
   | true =>
    have HFX:=hid hfx;have heb:((x.hash:Int) == (h:Int))=false:=by
     have h1:¬ x.hash=h:=(by simpa[dv0] using hfx);have:¬ (x.hash:Int)=(h:Int):=oM;simpa using this
    have HO1:=hid (show wr.ownsRow w1.heap.size 110 4 (.slice a m c) m (((es.take k).filter (dv0 h)).flatMap btC) by have:=HO.out;unfold cF0 at this;rw[HM.out] at this;exact this);clear hfx;go_wp2_with (at_builtin;refine wpList_append_own_at _ rfl (.tmp 22) (.tmp 28) 218 rfl w1.heap.size 110 i0 _ 4 32 Tryz.underlying218 hi0 hz0 hz1 hz2 rfl dC _ _ _ rfl (HO1.out.alloc _) ⟨wr.heap.size,0,none⟩ 1 1 (btC x) rfl rfl (World.news_of_block (cs:=#[.int .u64 x.hash,.int .i64 x.rg,.int .i64 x.at_,.int .i64 x.sz]) (t:=110) (fr:=(0,0)) (han _ _)) (by simp[Value.oneCell']) (by simp only[maxLen];omega) oM sO ?_)
    intro v3 W3 hown3 hg3 hnil3 hat3;obtain⟨a3,c3',rfl,-,-,-,-⟩:=oSl hown3;have F3:Fq w1 W3:=(HF2.out.alloc _).trans (S':=fun b=>(Value.slice a m c).ownBlock=some b) ⟨hg3.os,hg3.tape,hg3.output,hg3.size,fun b hb hn=>hg3.block b hb (fun e=>hn e.symm)⟩ (fun b hb e=>by
     have:=(aB0 HO1.out e).1;omega)
    have HQ:=hid (show ∃ (a:Option Addr) (c:Nat),Value.slice a3 (m+1) c3' = .slice a ((es.take (k+1)).filter (dv0 h)).length c/\cF0 W3 w1.heap.size (.slice a ((es.take (k+1)).filter (dv0 h)).length c) ((es.take (k+1)).filter (dv0 h))/\Fq w1 W3 by
     rw[HST.out,if_pos HFX.out];refine⟨a3,c3',by rw[lA,HM.out];rfl,?_,F3⟩;unfold cF0;rw[lA,li9,HM.out];simpa using hown3)
    clear hown3 hg3 hnil3 hat3 F3 c0 c1 c2 c3;go_wp2_with fail
    go_roundw;case rel =>
     obtain⟨a',c',e,h1,h2⟩:=HQ.out;exact⟨k+1,a',c',hlt,by go_num,e,h1,h2⟩
    case measure=>simp[intOf];omega
   | false =>
    have HFX:=hid hfx;have heb:((x.hash:Int) == (h:Int))=true:=by
     have h1:x.hash=h:=(by simpa[dv0] using hfx);rw[h1];simp
    clear hfx;go_wp2_with fail
    go_roundw;case rel=>exact⟨k+1,a,c,hlt,by go_num,by rw[HST.out,if_neg (by rw[HFX.out];decide),HM.out],by rw[HST.out,if_neg (by rw[HFX.out];decide)];exact HO.out,HF2.out⟩
    case measure=>simp[intOf];omega
  ·obtain rfl:k=n:=by omega
   have hd:decide ((k:Int)<(k:Int))=false:=by simp
   have htk:es.take k=es:=tL (by rw[HN.out];exact nR _);have HTK:=hid htk;obtain⟨y0,y1,y2,yz,yl⟩:=cells3 (hF.heap HB.out.2 id);have hne:¬ w.heap.size=w.heap.size+1:=oM
   have hne':¬ w.heap.size+1=w.heap.size:=oM
   clear hO hF hm htk;go_wp2_with fail
   refine bodyPost_ret (v:=rbV d p (.slice a m c)) sR rfl ?_;have hO:=HO.out;have hM:=HM.out;rw[HTK.out] at hO hM;exact vG0 HS.out HF.out HB.out.1 HB.out.2 HF2.out hM hO
theorem uJ0 (hE:cF0 w 0 v es)(hl:es.length<=65535)(d p:Int)(oldest:Int):Calls Tryz.prog 210 #[rbV d p v,.int .i64 oldest] w (RbP d p (es.filter (ak0 oldest)) w):=by
 obtain⟨va,vc,rfl,-,-,-,-⟩:=oSl hE;obtain⟨n,hn⟩:=eX es.length
 obtain⟨w1,hw1⟩:=eX ((w.alloc (.cells #[.int .i64 d,.int .i64 p,.slice va n vc] 220)).alloc (.cells #[.int .i64 0,.int .i64 0,.slice none 0 0] 220))
 obtain⟨b0,b4,F1⟩:=ai0 hw1;have hE1:=oN hE F1;have hs1:w1.heap.size=w.heap.size+2:=by rw[<- hw1];simp
 rw[hn] at hE1 hl ⊢;have HE:=hid hE1;have HN:=hid hn;have HF:=hid F1;have HW:=hid hw1;have HS:=hid hs1;have HB:=hi2 b0 b4;obtain⟨i0,hi0,hz0,hz1,hz2⟩:=info_parts Tryz.jD0;clear hE hE1 hn F1 hw1 b0 b4 hs1;go_enter Tryz.func210,Tryz.ntmps210;go_upto_region 1 with fail
 rw[HW.out];go_wp2_with fail
 go_loopw [5,6] (fun vv i wr=>∃ (k:Nat) (a:Option Addr) (c:Nat),k<=n/\i = .int .i64 k/\vv = .slice a ((es.take k).filter (ak0 oldest)).length c/\cF0 wr w1.heap.size (.slice a ((es.take k).filter (ak0 oldest)).length c) ((es.take k).filter (ak0 oldest))/\Fq w1 wr) (fun _ i _=>n-(intOf i).toNat)
 case atStart=>exact⟨0,none,0,la9 _,rfl,rfl,World.ownsRow_nil _ _ _ _,Fr.refl _ _⟩
 case round =>
  obtain⟨k,a,c,hk,rfl,rfl,hO,hF⟩:=hrel;obtain⟨x0,x1,x2,xz,xl⟩:=cells3 (hF.heap HB.out.1 id);have HO:=hid hO;have HF2:=hid hF;obtain⟨m,hm⟩:=eX (((es.take k).filter (ak0 oldest)).length)
  have hm5:m<=65535:=by rw[<- hm];exact nT (lD9 _ _) (by rw[lT];omega)
  have HM:=hid hm;rw[hm];by_cases hlt:k<n
  ·have hd:decide ((k:Int)<(n:Int))=true:=by simp;omega
   have hki:(k:Int)<(n:Int):=oM
   have hkw:wrap64 ((k:Int)+1)=((k+1:Nat):Int):=bM0 oM;obtain⟨x,hx⟩:∃ x,es[k]?=some x:=⟨_,gE (by rw[HN.out];exact hlt)⟩
   obtain⟨g,rfl,hg,c0,c1,c2,c3⟩:=cw0 (oN HE.out hF) hx;have HX:=hid hx;have hst:=gC0 hx (ak0 oldest);have HST:=hid hst;have hwr:=hF.size;clear hO hF hm hx hst;cases hfx:ak0 oldest x with
   | true =>
    have HFX:=hid hfx;have heb:decide (oldest<=x.rg)=true:=hfx;have HO1:=hid (show wr.ownsRow w1.heap.size 110 4 (.slice a m c) m (((es.take k).filter (ak0 oldest)).flatMap btC) by have:=HO.out;unfold cF0 at this;rw[HM.out] at this;exact this);clear hfx;go_wp2_with (at_builtin;refine wpList_append_own_at _ rfl (.tmp 22) (.tmp 28) 218 rfl w1.heap.size 110 i0 _ 4 32 Tryz.underlying218 hi0 hz0 hz1 hz2 rfl dC _ _ _ rfl (HO1.out.alloc _) ⟨wr.heap.size,0,none⟩ 1 1 (btC x) rfl rfl (World.news_of_block (cs:=#[.int .u64 x.hash,.int .i64 x.rg,.int .i64 x.at_,.int .i64 x.sz]) (t:=110) (fr:=(0,0)) (han _ _)) (by simp[Value.oneCell']) (by simp only[maxLen];omega) oM sO ?_)
    intro v3 W3 hown3 hg3 hnil3 hat3;obtain⟨a3,c3',rfl,-,-,-,-⟩:=oSl hown3;have F3:Fq w1 W3:=(HF2.out.alloc _).trans (S':=fun b=>(Value.slice a m c).ownBlock=some b) ⟨hg3.os,hg3.tape,hg3.output,hg3.size,fun b hb hn=>hg3.block b hb (fun e=>hn e.symm)⟩ (fun b hb e=>by
     have:=(aB0 HO1.out e).1;omega)
    have HQ:=hid (show ∃ (a:Option Addr) (c:Nat),Value.slice a3 (m+1) c3' = .slice a ((es.take (k+1)).filter (ak0 oldest)).length c/\cF0 W3 w1.heap.size (.slice a ((es.take (k+1)).filter (ak0 oldest)).length c) ((es.take (k+1)).filter (ak0 oldest))/\Fq w1 W3 by
     rw[HST.out,if_pos HFX.out];refine⟨a3,c3',by rw[lA,HM.out];rfl,?_,F3⟩;unfold cF0;rw[lA,li9,HM.out];simpa using hown3)
    clear hown3 hg3 hnil3 hat3 F3 c0 c1 c2 c3;go_wp2_with fail
    go_roundw;case rel =>
     obtain⟨a',c',e,h1,h2⟩:=HQ.out;exact⟨k+1,a',c',hlt,by go_num,e,h1,h2⟩
    case measure=>simp[intOf];omega
   | false =>
    have HFX:=hid hfx;have heb:decide (oldest<=x.rg)=false:=hfx;clear hfx;go_wp2_with fail
    go_roundw;case rel=>exact⟨k+1,a,c,hlt,by go_num,by rw[HST.out,if_neg (by rw[HFX.out];decide),HM.out],by rw[HST.out,if_neg (by rw[HFX.out];decide)];exact HO.out,HF2.out⟩
    case measure=>simp[intOf];omega
  ·obtain rfl:k=n:=by omega
   have hd:decide ((k:Int)<(k:Int))=false:=by simp
   have htk:es.take k=es:=tL (by rw[HN.out];exact nR _);have HTK:=hid htk;obtain⟨y0,y1,y2,yz,yl⟩:=cells3 (hF.heap HB.out.2 id);have hne:¬ w.heap.size=w.heap.size+1:=oM
   have hne':¬ w.heap.size+1=w.heap.size:=oM
   clear hO hF hm htk;go_wp2_with fail
   refine bodyPost_ret (v:=rbV d p (.slice a m c)) sR rfl ?_;have hO:=HO.out;have hM:=HM.out;rw[HTK.out] at hO hM;exact vG0 HS.out HF.out HB.out.1 HB.out.2 HF2.out hM hO
def cO0 (x y:Bt):Bool:=decide (x.rg<y.rg) || (decide (x.rg=y.rg) && decide (x.at_<y.at_))
def dl0 (es:List Bt):Nat->Option Nat
 | 0=>none
 | k+1=>match dl0 es k,es[k]? with
  | some j,some x=>match es[j]? with
   | some y=>if cO0 x y then some k else some j
   | none=>some j
  | none,some _=>some k
  | b,none=>b
theorem gw0 (es:List Bt):∀ (k j:Nat),dl0 es k=some j->j<k/\j<es.length:=by
 intro k;induction k with
 | zero=>intro j h;cases h
 | succ k ih =>
  intro j h;simp only[dl0] at h;cases hb:dl0 es k with
  | none =>
   rw[hb] at h;cases hx:es[k]? with
   | none=>rw[hx] at h;cases h
   | some x =>
    rw[hx] at h;cases h;exact⟨Nat.lt_succ_self _,(gI.1 hx).1⟩
  | some i =>
   obtain⟨h1,h2⟩:=ih i hb;rw[hb] at h;cases hx:es[k]? with
   | none=>rw[hx] at h;cases h;exact⟨oM,h2⟩
   | some x =>
    rw[hx] at h;have hk:=(gI.1 hx).1;cases hy:es[i]? with
    | none=>simp only[hy] at h;cases h;exact⟨oM,h2⟩
    | some y =>
     simp only[hy] at h;split at h
     ·cases h;exact⟨Nat.lt_succ_self _,hk⟩
     ·cases h;exact⟨oM,h2⟩
def zS0:Option Nat->Int
 | some k=>k
 | none=>-1
theorem sn0 (hE:cF0 w 0 v es)(hl:es.length<=65535)(d p:Int):Calls Tryz.prog 212 #[rbV d p v] w (FdP (zS0 (dl0 es es.length)) w):=by
 obtain⟨va,vc,rfl,-,-,-,-⟩:=oSl hE;obtain⟨n,hn⟩:=eX es.length
 obtain⟨w1,hw1⟩:=eX (w.alloc (.cells #[.int .i64 d,.int .i64 p,.slice va n vc] 220))
 have F1:Fq w w1:=by rw[<- hw1];exact (Fr.refl _ _).alloc _
 have b0:w1.heap[w.heap.size]?=some (.cells #[.int .i64 d,.int .i64 p,.slice va n vc] 220):=by rw[<- hw1];exact han _ _
 have hE1:=oN hE F1;rw[hn] at hE1 hl ⊢;have HE:=hid hE1;have HN:=hid hn;have HF:=hid F1;have HW:=hid hw1;have HB:=hid b0;clear hE hE1 hn F1 hw1 b0;go_enter Tryz.func212,Tryz.ntmps212;go_upto_region 1 with fail
 rw[HW.out];go_wp2_with fail
 go_loopw [3,4] (fun b i wr=>∃ k:Nat,k<=n/\i = .int .i64 k/\b = .int .i64 (zS0 (dl0 es k))/\Fq w1 wr) (fun _ i _=>n-(intOf i).toNat)
 case atStart=>exact⟨0,la9 _,rfl,rfl,Fr.refl _ _⟩
 case round =>
  obtain⟨k,hk,rfl,rfl,hF⟩:=hrel;obtain⟨x0,x1,x2,xz,xl⟩:=cells3 (hF.heap HB.out id);have HF2:=hid hF;by_cases hlt:k<n
  ·have hd:decide ((k:Int)<(n:Int))=true:=by simp;omega
   have hki:(k:Int)<(n:Int):=oM
   have hkw:wrap64 ((k:Int)+1)=((k+1:Nat):Int):=bM0 oM;obtain⟨x,hx⟩:∃ x,es[k]?=some x:=⟨_,gE (by rw[HN.out];exact hlt)⟩
   obtain⟨g,rfl,hg,c0,c1,c2,c3⟩:=cw0 (oN HE.out hF) hx;obtain⟨W,hW⟩:=eX (wr.alloc (.cells #[.int .u64 x.hash,.int .i64 x.rg,.int .i64 x.at_,.int .i64 x.sz] 110))
   have FW:Fq wr W:=by rw[<- hW];exact (Fr.refl _ _).alloc _
   have bW:W.heap[wr.heap.size]?=some (.cells #[.int .u64 x.hash,.int .i64 x.rg,.int .i64 x.at_,.int .i64 x.sz] 110):=by rw[<- hW];exact han _ _
   have HX:=hid hx;have HW2:=hid hW;have FW1:=hF.trans FW nI;have HFW:=hid FW1;have HBW:=hid bW;clear hF hx hW FW bW;cases hb:dl0 es k with
   | none =>
    have HR:=hid (show dl0 es (k+1)=some k by simp only[dl0];rw[hb,HX.out]);clear hb FW1;simp only[zS0];go_upto_region 6 with fail
    rw[HW2.out];go_quiet (fail)
    go_wp2_with fail
    go_roundw;case rel=>exact⟨k+1,hlt,by go_num,by rw[HR.out],HFW.out.drewN _⟩
    case measure=>simp[intOf];omega
   | some j =>
    obtain⟨hjk,hjl⟩:=gw0 es k j hb;obtain⟨y,hy⟩:∃ y,es[j]?=some y:=⟨_,gE hjl⟩
    have HR:=hid (show dl0 es (k+1)=if cO0 x y then some k else some j by simp only[dl0];rw[hb,HX.out];simp only;rw[hy]);obtain⟨g',eg,hg',e0,e1,e2,e3⟩:=cw0 (oN HE.out FW1) hy;cases eg;obtain⟨y0,y1,y2,yz,yl⟩:=cells3 (FW1.heap HB.out id);obtain⟨t0,t1,t2,t3,tz,tl⟩:=ah0 HBW.out;have hjn:(j:Int)<(n:Int):=oM;have hj0:decide ((j:Int)<0)=false:=sP;have hjn':j<n:=oM;clear hb hy FW1 hjl;simp only[zS0];by_cases h1:x.rg<y.rg
    ·have q1:decide (x.rg<y.rg)=true:=(by simpa using h1);have HT:=hid (show cO0 x y=true by simp[cO0,h1]);clear h1;go_upto_region 6 with fail
     rw[HW2.out];clear c0 c1 c2 c3 x0 x1 x2;go_quiet (fail)
     go_wp2_with fail
     go_roundw;case rel=>exact⟨k+1,hlt,by go_num,by rw[HR.out,if_pos HT.out],HFW.out.drewN _⟩
     case measure=>simp[intOf];omega
    ·have q1:decide (x.rg<y.rg)=false:=(by simpa using h1);by_cases h2:x.rg=y.rg
     ·have q2:(x.rg == y.rg)=true:=(by simpa using h2);cases h3:decide (x.at_<y.at_) with
      | true =>
       have HT:=hid (show cO0 x y=true by simp[cO0,h2,h3]);clear h1 h2;go_upto_region 6 with fail
       rw[HW2.out];clear c0 c1 c2 c3 x0 x1 x2;go_quiet (fail)
       go_wp2_with fail
       go_roundw;case rel=>exact⟨k+1,hlt,by go_num,by rw[HR.out,if_pos HT.out],HFW.out.drewN _⟩
       case measure=>simp[intOf];omega
      | false =>
       have HT:=hid (show cO0 x y=false by simp[cO0,h1,h2,h3]);clear h1 h2;go_upto_region 6 with fail
       rw[HW2.out];clear c0 c1 c2 c3 x0 x1 x2;go_quiet (fail)
       go_wp2_with fail
       go_roundw;case rel=>exact⟨k+1,hlt,by go_num,by rw[HR.out,if_neg (by rw[HT.out];decide)],HFW.out.drewN _⟩
       case measure=>simp[intOf];omega
     ·have q2:(x.rg == y.rg)=false:=(by simpa using h2);have HT:=hid (show cO0 x y=false by simp[cO0,h1,h2]);clear h1 h2;go_upto_region 6 with fail
      rw[HW2.out];clear c0 c1 c2 c3 x0 x1 x2;go_quiet (fail)
      go_wp2_with fail
      go_roundw;case rel=>exact⟨k+1,hlt,by go_num,by rw[HR.out,if_neg (by rw[HT.out];decide)],HFW.out.drewN _⟩
      case measure=>simp[intOf];omega
  ·obtain rfl:k=n:=by omega
   have hd:decide ((k:Int)<(k:Int))=false:=by simp
   clear hF;go_wp2_with fail
   go_ret;exact⟨rfl,HF.out.trans HF2.out nI⟩
