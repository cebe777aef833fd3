/- A pack of texts. Conditions: those that each names. -/
import Derived.Test.YtgdhaaokolfdoaaGreatDoorNAZ
set_option maxHeartbeats 16000000
set_option maxRecDepth 100000
set_option linter.all false
namespace Go.Proofs.YtgdhaaokolfdoaaGreatDoor
section
open Go.RowKit Go.Sg CP SF
variable {w:World}{k r:Nat}{bs:List Int}
theorem xl0 (h:fj0 w r bs false):Calls Tryz.prog 218 #[.pointer (some ⟨r,0,none⟩)] w (kV0 false w):=by
 obtain⟨⟨a,c,hr,-⟩,-⟩:=h;have c1:w.cell? ⟨r,1,none⟩=some (.bool false):=by simpa using coh hr 1
 clear hr;go_enter Tryz.func218,Tryz.ntmps218;go_wp2_with fail
 go_ret;exact⟨rfl,rfl⟩
def ye0 (n:Nat)(w:World)(e:Ending)(w':World):Prop:=∃ a c,e = .returned (.slice a n c)/\Fq w w'
theorem uH0 (h:fj0 w r bs false):Calls Tryz.prog 275 #[.pointer (some ⟨r,0,none⟩)] w (ye0 bs.length w):=by
 obtain⟨⟨a,c,hr,hb,-⟩,hs⟩:=h;obtain⟨n,hn⟩:=eX bs.length
 rw[hn] at hr hb hs ⊢;have c0:w.cell? ⟨r,0,none⟩=some (.slice a n c):=by simpa using coh hr 0
 have HC:=hid (dz0 hb.slb hs);clear hr hb hn;go_enter Tryz.func275,Tryz.ntmps275;go_wp2_with fail
 refine HC.out.mono ?_;rintro e w2 ⟨a',c',rfl,-,F2⟩;have HF:=hid F2;clear F2;go_wp2_with fail
 go_ret;exact⟨_,_,rfl,HF.out⟩
variable {es:List Bt}
theorem qH0 {x:Bt}(h:es[k]?=some x):(es.drop k).flatMap jK0=Sg.leB x.hash 8++(Sg.leB x.rg.toNat 8++(Sg.leB x.at_.toNat 2++(Sg.leB x.sz.toNat 2++(es.drop (k+1)).flatMap jK0))):=by
 have hk:=(gI.1 h).1;have e:es[k]=x:=(gI.1 h).2;rw[mc9 hk,e];simp[jK0]
theorem ly0 (es:List Bt):∀ z ∈ es.flatMap jK0,0<=z/\z<256:=fun z hz=>by
 obtain⟨x,_,h⟩:=mf9.1 hz;simp only[jK0,lb9] at h;rcases h with ((h|h)|h)|h <;> exact Sg.bw0 _ _ z h
theorem cL0 (d p:Nat)(es:List Bt):∀ z ∈ aA0 d p es,0<=z/\z<256:=fun z hz=>by
 simp only[aA0,lb9] at hz;rcases hz with ((h|h)|h)|h
 ·exact Sg.bw0 _ _ z h
 ·exact Sg.bw0 _ _ z h
 ·exact Sg.bw0 _ _ z h
 ·exact ly0 es z h
theorem bN0 {bs t:List Int}{n k:Nat}(h:∀ z ∈ Sg.leB n k++t,0<=z/\z<256):∀ z ∈ t,0<=z/\z<256:=fun z hz=>h z (lu9 _ hz)
def Bm0 (r v:Nat)(rest:List Int)(w:World)(e:Ending)(w':World):Prop:=e = .returned (.int .u64 v)/\fj0 w' r rest false/\Fr (fun b=>b=r) w w'
theorem mI0 {v:Nat}{rest:List Int}(h:fj0 w r (Sg.leB v k++rest) false)(hr:∀ x ∈ rest,0<=x/\x<256)(kz:Int)(hkz:kz=k)(hk:k=1\/k=2\/k=4\/k=8)(hv:v<256^k) :
  Calls Tryz.prog 216 #[.pointer (some ⟨r,0,none⟩),.int .i64 kz] w (Bm0 r v rest w):=by
 refine (xv0 h (fun x hx=>?_) k kz hkz hk (by rw[lA,ap0];omega)).mono ?_
 ·rcases lb9.1 hx with hx|hx
  ·exact Sg.bw0 _ _ x hx
  ·exact hr x hx
 ·rintro e w' ⟨rfl,h2,F⟩;rw[ka0,kz0 k v hv];rw[jN0] at h2;exact⟨rfl,h2,F⟩
def Bj0 (d p:Nat)(es:List Bt)(w:World)(e:Ending)(w':World):Prop:=
 ∃ a c,e = .returned (.tuple #[bkV d p (.slice a es.length c),.int .i64 0])/\bm0 w' w.heap.size (.slice a es.length c) es/\Fq w w'
def Al0 (w1:World)(b4 b7 r:Nat)(d p:Nat)(es:List Bt)(k:Nat)(W:World):Prop:=
 fj0 W r ((es.drop k).flatMap jK0) false/\(∃ v,W.heap[b7]?=some (.cells #[.int .i64 d,.int .i64 p,v] 129)/\bm0 W w1.heap.size v (es.take k))/\Fq w1 W
theorem sE0 {a:Option Addr}{c n d p:Nat}(h:ByV w a n c (aA0 d p es))(hn:n=10+20*es.length)(hl:es.length<=24)(hg:∀ x ∈ es,gA0 x)(sl:Nat)(hd:d<=20)(hp:p<1048576)
  (hR:∀ W v,bm0 W 0 v es->Calls Tryz.prog 190 #[bkV d p v,.int .i64 sl] W (ec0 (.bool true) W)) :
  Calls Tryz.prog 246 #[.slice a n c,.int .i64 sl] w (Bj0 d p es w):=by
 obtain⟨i0,hi0,hz0,hz1,hz2⟩:=info_parts Tryz.eo0;obtain⟨m,hm⟩:=eX es.length
 have hm24:m<=24:=oM
 obtain⟨w1,hw1⟩:=eX (w.alloc (.cells #[.int .i64 0,.int .i64 0,.slice none 0 0] 129))
 have b4:w1.heap[w.heap.size]?=some (.cells #[.int .i64 0,.int .i64 0,.slice none 0 0] 129):=by rw[<- hw1];exact han _ _
 have F1:Fq w w1:=by rw[<- hw1];exact (Fr.refl _ _).alloc _
 have hs1:w1.heap.size=w.heap.size+1:=by rw[<- hw1];simp
 have HNW:=hid (show Calls Tryz.prog 215 #[.slice a n c] w1 (vf0 (aA0 d p es) w1) from dY0 (h.fr F1 (fun _ _ _ h=>h)).slb oM);have HM:=hid hm;have HG:=hid hg;have HRt:=hid hR;have H4:=hi2 b4 (aI F1 hs1);have HW:=hid hw1;clear h hn hl hg hR hw1 b4 F1 hs1 hm;go_enter Tryz.func246,Tryz.ntmps246;go_upto_region 1 with fail
 rw[HW.out];go_wp2_with fail
 refine HNW.out.mono ?_;rintro e w2 ⟨r,rfl,hW2,hr2,F2⟩;have hW2':=hW2;have epk:aA0 d p es=Sg.leB d 1++(Sg.leB es.length 1++(Sg.leB p 8++es.flatMap jK0)):=by simp[aA0]
 rw[epk] at hW2';have hby:=cL0 d p es;rw[epk] at hby
 have HN1:=hid (mI0 hW2' (bN0 (bs:=[]) hby) 1 sP sP oM);have hby2:=bN0 (bs:=[]) hby
 have hrl:=loh hW2.ex.choose_spec.choose_spec.1;have H2:=hi2 F2 (aI hr2 hby2);clear hW2 hW2' F2 hby epk hby2 HNW;go_wp2_with fail
 refine HN1.out.mono ?_;rintro e w3 ⟨rfl,hR3,F3⟩;have hcd:IntKind.i64.wrap (d:Int)=(d:Int):=by rw[IntKind.wrap_i64];omega
 have hs3:=F3.size;have F13:Fq w1 w3:=H2.out.1.trans F3 (fun b hb e=>by have:=H2.out.2.1;omega);have H3:=hi2 hR3 F13;have hr3:r<w3.heap.size:=oM
 clear hR3 F3 F13 HN1;go_upto_region 3 with fail
 obtain⟨w4,hw4⟩:=eX (w3.alloc (.cells #[.int .i64 d,.int .i64 0,.slice none 0 0] 129))
 rw[hw4];have b7:w4.heap[w3.heap.size]?=some (.cells #[.int .i64 d,.int .i64 0,.slice none 0 0] 129):=by rw[<- hw4];exact han _ _
 have F4:Fq w3 w4:=by rw[<- hw4];exact (Fr.refl _ _).alloc _
 have HN2:=hid (mI0 (H3.out.1.fr F4 id (fun _ _ _ h=>h)) (bN0 (bs:=[]) H2.out.2.2) 1 sP sP (by rw[HM.out];omega));have H5:=hi2 b7 (H3.out.2.trans F4 nI);clear hw4 b7 F4;go_wp2_with fail
 refine HN2.out.mono ?_;rintro e w5 ⟨rfl,hR5,F5⟩;have hcm:IntKind.i64.wrap (m:Int)=(m:Int):=by rw[IntKind.wrap_i64];omega
 have HN3:=hid (mI0 hR5 (bN0 (bs:=[]) (bN0 (bs:=[]) H2.out.2.2)) 8 sP sP oM);have b75:=F5.heap H5.out.1 (fun e=>oM);have H6:=hi2 b75 (H5.out.2.trans F5 (fun b hb e=>by have:=H2.out.2.1;omega));rw[HM.out];clear hR5 F5 b75 HN2;go_wp2_with fail
 refine HN3.out.mono ?_;rintro e w6 ⟨rfl,hR6,F6⟩;have hcp:IntKind.i64.wrap (p:Int)=(p:Int):=by rw[IntKind.wrap_i64];omega
 have b76:=F6.heap H6.out.1 (fun e=>oM);obtain⟨x0,x1,x2,xz,xl⟩:=cells3 b76;have H7:=hi2 b76 (aI hR6 (H6.out.2.trans F6 (fun b hb e=>by have:=H2.out.2.1;omega)));clear hR6 F6 b76 HN3;go_upto_region 5 with fail
 obtain⟨w7,hw7⟩:=eX (w6.setCell ⟨w3.heap.size,1,none⟩ (.int .i64 p))
 rw[hw7];have F7:Fr (fun b=>b=w3.heap.size) w6 w7:=by rw[<- hw7];exact (Fr.refl (fun b=>b=w3.heap.size) _).setCell (a:=⟨w3.heap.size,_,none⟩) (fun _=>rfl) _
 have b77:w7.heap[w3.heap.size]?=some (.cells #[.int .i64 d,.int .i64 p,.slice none 0 0] 129):=by rw[<- hw7,hsc _ _ _ _ H7.out.1];rfl
 have hb7:w1.heap.size<=w3.heap.size:=H3.out.2.size;obtain⟨q7,hq7⟩:=eX w3.heap.size
 have hI:Al0 w1 w.heap.size q7 r d p es 0 w7:=by
  rw[<- hq7];refine⟨?_,⟨_,b77,World.ownsRow_nil _ _ _ _⟩,H7.out.2.2.trans F7 (fun b hb e=>oM)⟩;exact H7.out.2.1.fr F7 (fun e=>oM) (fun b c hb e=>by rw[e,H7.out.1] at hb;cases hb)
 have HI:=hid hI;have hrw:w1.heap.size<=r:=H2.out.2.1;have hrq:r<q7:=oM
 have hq71:w1.heap.size<=q7:=oM
 rw[hq7];clear hI b77 F7 hw7 x0 x1 x2 xz xl hb7 hq7 hr3 hs3 hrl;go_wp2_with fail
 go_loopw [24] (fun iv wr=>∃ k:Nat,k<=m/\iv = .int .i64 k/\Al0 w1 w.heap.size q7 r d p es k wr) (fun iv _=>m-(intOf iv).toNat)
 case atStart=>exact⟨0,la9 _,rfl,HI.out⟩
 case round =>
  obtain⟨k,hk,rfl,hI⟩:=hrel;obtain⟨hRd,⟨v,hb7,hown⟩,hF⟩:=hI;obtain⟨va,vc,rfl,-,-,-,-⟩:=oSl hown;have htl:(es.take k).length=k:=by rw[lT,HM.out];omega
  replace hown:wr.ownsRow w1.heap.size 118 4 (.slice va (es.take k).length vc) (es.take k).length ((es.take k).flatMap btC):=hown
  rw[htl] at hown hb7;by_cases hlt:k<m
  ·have hdl:decide (k<m)=true:=by simp[hlt]
   obtain⟨x,hx⟩:∃ x,es[k]?=some x:=⟨_,gE (by rw[HM.out];exact hlt)⟩
   have hgx:=HG.out x (gM hx);obtain⟨g0,g1,g2,g3⟩:=hgx;have hby:∀ z ∈ (es.drop k).flatMap jK0,0<=z/\z<256:=ly0 _
   rw[qH0 hx] at hRd hby
   obtain⟨xh,xr,xa,xs⟩:=x;simp only at g0 g1 g2 g3 hRd hby
   obtain⟨xr,rfl⟩:=iZ g1.1;obtain⟨xa,rfl⟩:=iZ g2.1;obtain⟨xs,rfl⟩:=iZ g3.1;simp only[lG9] at hRd hby
   have hrg:xr<=1099511627776/\xa<=65535/\xs<=65535:=oM
   have hby1:=bN0 (bs:=[]) hby
   have hby2:=bN0 (bs:=[]) hby1;have hby3:=bN0 (bs:=[]) hby2;have hby4:=bN0 (bs:=[]) hby3;have HN1:=hid (mI0 hRd hby1 8 sP sP oM);have HB:=hi2 hby2 (aI hby3 hby4);have HRC:=hid (show ∃ c,wr.heap[r]?=some (.cells c 377) from⟨_,hRd.ex.choose_spec.choose_spec.1⟩);have HX:=hid hx;have hbl:=loh hb7;have hrl:=loh hRd.ex.choose_spec.choose_spec.1;have HL:=hi2 hb7 (aI hown hF);have hu1:IntKind.i64.wrap (xr:Int)=(xr:Int):=by rw[IntKind.wrap_i64];omega
   have hu2:IntKind.i64.wrap (xa:Int)=(xa:Int):=by rw[IntKind.wrap_i64];omega
   have hu3:IntKind.i64.wrap (xs:Int)=(xs:Int):=by rw[IntKind.wrap_i64];omega
   clear hx hRd hby hby1 hby2 hby3 hby4 hb7 hown hF g1 g2 g3;go_wp2_with fail
   refine HN1.out.mono ?_;rintro e W2 ⟨rfl,hR2,F2⟩;go_upto_region 8 with fail
   obtain⟨W3,hW3⟩:=eX (W2.alloc (.cells #[.int .u64 xh,.int .i64 0,.int .i64 0,.int .i64 0] 118))
   rw[hW3];obtain⟨b9,hb9⟩:=eX W2.heap.size
   have x9:W3.heap[b9]?=some (.cells #[.int .u64 xh,.int .i64 0,.int .i64 0,.int .i64 0] 118):=by rw[<- hW3,<- hb9];exact han _ _
   have F3:Fr (fun b=>b=r) wr W3:=by rw[<- hW3];exact F2.alloc _
   have hr9:r≠b9:=by have:=F2.size;omega
   have hq9:q7≠b9:=by have:=F2.size;omega
   have hs9:wr.heap.size<=b9:=by rw[<- hb9];exact F2.size
   have HN2:=hid (mI0 (hR2.fr (show Fq W2 W3 by rw[<- hW3];exact (Fr.refl _ _).alloc _) id (fun _ _ _ h=>h)) HB.out.1 8 sP sP oM);have H3:=hi2 x9 F3;rw[hb9];clear hR2 F2 hW3 x9 F3 HN1 hb9;go_wp2_with fail
   refine HN2.out.mono ?_;rintro e W4 ⟨rfl,hR4,F4⟩;have x9:=F4.heap H3.out.1 (fun e=>hr9 e.symm);obtain⟨t0,t1,t2,t3,tz,tl⟩:=ah0 x9;go_upto_region 9 with fail
   obtain⟨W5,hW5⟩:=eX (W4.setCell ⟨b9,1,none⟩ (.int .i64 xr))
   rw[hW5];have F5:Fr (fun b=>b=b9) W4 W5:=by rw[<- hW5];exact (Fr.refl (fun b=>b=b9) _).setCell (a:=⟨b9,_,none⟩) (fun _=>rfl) _
   have x95:W5.heap[b9]?=some (.cells #[.int .u64 xh,.int .i64 xr,.int .i64 0,.int .i64 0] 118):=by rw[<- hW5,hsc _ _ _ _ x9];rfl
   have HN3:=hid (mI0 (hR4.fr F5 (fun e=>hr9 e) (fun b c hb e=>by rw[e,x9] at hb;cases hb)) HB.out.2.1 2 sP sP oM);have H5:=hi2 x95 ((H3.out.2.trans F4 nI).trans F5 (S':=fun b=>b=b9) (fun b hb e=>oM));clear hR4 F4 F5 hW5 x9 x95 t0 t1 t2 t3 tz tl HN2;go_wp2_with fail
   refine HN3.out.mono ?_;rintro e W6 ⟨rfl,hR6,F6⟩;have x9:=F6.heap H5.out.1 (fun e=>hr9 e.symm);obtain⟨t0,t1,t2,t3,tz,tl⟩:=ah0 x9;go_upto_region 10 with fail
   obtain⟨W7,hW7⟩:=eX (W6.setCell ⟨b9,2,none⟩ (.int .i64 xa))
   rw[hW7];have F7:Fr (fun b=>b=b9) W6 W7:=by rw[<- hW7];exact (Fr.refl (fun b=>b=b9) _).setCell (a:=⟨b9,_,none⟩) (fun _=>rfl) _
   have x97:W7.heap[b9]?=some (.cells #[.int .u64 xh,.int .i64 xr,.int .i64 xa,.int .i64 0] 118):=by rw[<- hW7,hsc _ _ _ _ x9];rfl
   have HN4:=hid (mI0 (hR6.fr F7 (fun e=>hr9 e) (fun b c hb e=>by rw[e,x9] at hb;cases hb)) HB.out.2.2 2 sP sP oM);have H7:=hi2 x97 ((H5.out.2.trans F6 nI).trans F7 (S':=fun b=>b=b9) (fun b hb e=>oM));clear hR6 F6 F7 hW7 x9 x97 t0 t1 t2 t3 tz tl HN3;go_wp2_with fail
   refine HN4.out.mono ?_;rintro e W8 ⟨rfl,hR8,F8⟩;have x9:=F8.heap H7.out.1 (fun e=>hr9 e.symm);obtain⟨t0,t1,t2,t3,tz,tl⟩:=ah0 x9;go_upto_region 11 with fail
   obtain⟨W9,hW9⟩:=eX (W8.setCell ⟨b9,3,none⟩ (.int .i64 xs))
   rw[hW9];have F9:Fr (fun b=>b=b9) W8 W9:=by rw[<- hW9];exact (Fr.refl (fun b=>b=b9) _).setCell (a:=⟨b9,_,none⟩) (fun _=>rfl) _
   have x99:W9.heap[b9]?=some (.cells #[.int .u64 xh,.int .i64 xr,.int .i64 xa,.int .i64 xs] 118):=by rw[<- hW9,hsc _ _ _ _ x9];rfl
   have FA:Fr (fun b=>b=r) wr W9:=(H7.out.2.trans F8 nI).trans F9 (S':=fun b=>b=b9) (fun b hb e=>oM);have hR9:fj0 W9 r ((es.drop (k+1)).flatMap jK0) false:=hR8.fr F9 (fun e=>hr9 e) (fun b c hb e=>by rw[e,x9] at hb;cases hb);have hb79:=FA.heap HL.out.1 (fun e=>oM);have hown9:W9.ownsRow w1.heap.size 118 4 (.slice va k vc) k ((es.take k).flatMap btC):=oRf HL.out.2.1 FA (fun g cs hg e=>by
    obtain⟨cr,hcr⟩:=HRC.out;rw[e,hcr] at hg;cases hg)
   have F19:Fq w1 W9:=HL.out.2.2.trans FA (fun b hb e=>oM);obtain⟨y0,y1,y2,yz,yl⟩:=cells3 hb79;obtain⟨t0',t1',t2',t3',tz',tl'⟩:=ah0 x99;have H9:=hi2 hown9 (aI hR9 (aI F19 hb79));have hlen:0+k+1<=25:=oM
   have hsz9:w1.heap.size<=W9.heap.size:=F19.size;clear hR8 F8 F9 hW9 x9 x99 FA hR9 hb79 hown9 F19 t0 t1 t2 t3 tz tl HN4;go_wp2_with (at_builtin;refine wpList_append_own_at _ rfl (.tmp 45) (.tmp 47) 127 rfl w1.heap.size 118 i0 _ 4 32 Tryz.underlying127 hi0 hz0 hz1 hz2 rfl dC _ _ _ rfl (H9.out.1.alloc _) ⟨W9.heap.size,0,none⟩ 1 1 [.int .u64 xh,.int .i64 xr,.int .i64 xa,.int .i64 xs] rfl rfl (World.news_of_block (cs:=#[.int .u64 xh,.int .i64 xr,.int .i64 xa,.int .i64 xs]) (t:=118) (fr:=(0,0)) (han _ _)) (by simp[Value.oneCell']) (by simp[maxLen];omega) oM sO ?_)
   intro v2 W2 hown2 hgrow2 hnil2 hat2;have hF2:Fr (fun b=>some b=(Value.slice va k vc).ownBlock) W9 W2:=((Fr.refl _ _).alloc _).trans (S':=fun b=>some b=(Value.slice va k vc).ownBlock) ⟨hgrow2.os,hgrow2.tape,hgrow2.output,hgrow2.size,fun b hb hn=>hgrow2.block b hb hn⟩ (fun b hb h=>h);have hR2:fj0 W2 r ((es.drop (k+1)).flatMap jK0) false:=H9.out.2.1.fr hF2 (fun e=>by
    obtain⟨_,c,hc⟩:=oBT H9.out.1 e;obtain⟨a,c',h1,_⟩:=H9.out.2.1.ex;rw[hc] at h1;cases h1) (fun b c hb e=>by
    obtain⟨_,c',hc⟩:=oBT H9.out.1 e;rw[hc] at hb;cases hb)
   have hb72:=hF2.heap H9.out.2.2.2 (fun e=>by
    obtain⟨_,c',hc⟩:=oBT H9.out.1 e;rw[H9.out.2.2.2] at hc;cases hc)
   obtain⟨va2,vc2,rfl,-,-,-,-⟩:=oSl hown2;have F12:Fq w1 W2:=H9.out.2.2.1.trans hF2 (fun b hb e=>by have:=(oBT H9.out.1 e).1;omega);have FS:Fr (fun b=>b=q7) W2 (W2.setCell ⟨q7,2,none⟩ (.slice va2 (k+1) vc2)):=(Fr.refl (fun b=>b=q7) _).setCell (a:=⟨q7,_,none⟩) (fun _=>rfl) _;have HRel:=hid (show Al0 w1 w.heap.size q7 r d p es (k+1) (W2.setCell ⟨q7,2,none⟩ (.slice va2 (k+1) vc2)) from⟨hR2.fr FS (fun e=>oM) (fun b c hb e=>by rw[e,hb72] at hb;cases hb),⟨.slice va2 (k+1) vc2,by rw[hsc _ _ _ _ hb72];rfl,by
    have e1:es.take (k+1)=es.take k++[⟨xh,xr,xa,xs⟩]:=(by rw[lw9,HX.out];rfl);have e2:(es.take (k+1)).flatMap btC=(es.take k).flatMap btC++[.int .u64 xh,.int .i64 xr,.int .i64 xa,.int .i64 xs]:=(by rw[e1,li9];simp[btC]);have e3:(es.take (k+1)).length=k+1:=(by rw[lT,HM.out];omega);show (W2.setCell _ _).ownsRow _ 118 4 _ (es.take (k+1)).length ((es.take (k+1)).flatMap btC);rw[e2,e3];exact oRf hown2 FS (fun g cs hg e=>by rw[e,hb72] at hg;cases hg)⟩,F12.trans FS (fun b hb e=>oM)⟩)
   obtain⟨y0',y1',y2',yz',yl'⟩:=cells3 hb72;clear hown2 hgrow2 hnil2 hat2 hF2 hR2 hb72 F12 FS y0 y1 y2 yz yl t0' t1' t2' t3' tz' tl';go_wp2_with fail
   go_roundw;case rel=>exact⟨k+1,hlt,by go_num,HRel.out⟩
   case measure=>simp[intOf];omega
  ·obtain rfl:k=m:=by omega
   have hdl:decide (k<k)=false:=by simp
   have e0:es.drop k=[]:=mM9 (by rw[HM.out];exact nR _);have e1:es.take k=es:=tL (by rw[HM.out];exact nR _);rw[e0] at hRd;rw[e1] at hown;have HBad:=hid (xl0 hRd);have HRest:=hid (show Calls Tryz.prog 275 #[.pointer (some ⟨r,0,none⟩)] wr (ye0 0 wr) from uH0 hRd);have HL:=hi2 hb7 (aI (show bm0 wr w1.heap.size (.slice va k vc) es from by
    show wr.ownsRow w1.heap.size 118 4 (.slice va k vc) es.length (es.flatMap btC);rw[HM.out];exact hown) hF)
   have HB7:=hid (fun W (F:Fq wr W)=>cells3 (F.heap hb7 id));clear hRd hb7 hown hF e0 e1 htl;go_wp2_with fail
   refine HBad.out.mono ?_;rintro e _ ⟨rfl,rfl⟩;go_wp2_with fail
   refine HRest.out.mono ?_;rintro e W2 ⟨ra,rc,rfl,F2⟩;obtain⟨y0,y1,y2,yz,yl⟩:=HB7.out _ F2;have HRi:=hid (HRt.out W2 (.slice va k vc) (own_base (oN HL.out.2.1 F2)));have HF2:=hid F2;clear F2;go_wp2_with fail
   refine HRi.out.mono ?_;rintro e W3 ⟨rfl,F3⟩;have FF:=HF2.out.trans F3 nI;have HF3:=hid FF;clear y0 y1 y2 yz yl F3;obtain⟨y0,y1,y2,yz,yl⟩:=HB7.out _ FF;obtain⟨z0,z1,z2,zz,zl⟩:=cells3 (FF.heap (HL.out.2.2.heap H4.out.1 id) id);clear FF;go_wp2_with fail
   have FS:∀ (W:World) (o:Nat) (u:Value),Fr (fun b=>b=w.heap.size) W (W.setCell ⟨w.heap.size,o,none⟩ u):=fun W o u=>(Fr.refl (fun b=>b=w.heap.size) _).setCell (a:=⟨w.heap.size,o,none⟩) (fun _=>rfl) u
   refine bodyPost_ret (v:=.tuple #[bkV d p (.slice va k vc),.int .i64 0]) sR rfl ⟨va,vc,by rw[HM.out],?_,?_⟩
   ·rw[HM.out];have ho:=oN HL.out.2.1 HF3.out;have hs:=H4.out.2.2;have ho':W3.ownsRow w1.heap.size 118 4 (.slice va k vc) es.length (es.flatMap btC):=ho;exact aS0 (ac0 ho' (by omega:w.heap.size<=w1.heap.size)) (((FS _ _ _).trans (FS _ _ _) nI).trans (FS _ _ _) nI) (fun g hg e=>by
     have:=(aW0 ho hg).1;omega)
   ·exact ((((H4.out.2.1.trans HL.out.2.2 nI).trans HF3.out nI).an0 oM _).an0 oM _).an0 oM _
end
section
open Go.Proofs Go.RowKit Go.Sg Go.Shelf CP SF
attribute [local go_sem] Oper.semAt_some
abbrev yU0 (x:Bt × Bt):Array Value:=#[btV x.1,btV x.2]
def KpP (n0:Nat)(A C:World):Prop:=A.heap.size<=C.heap.size/\∀ b,b<n0->C.heap[b]?=A.heap[b]?
theorem KpP.refl (n0:Nat)(A:World):KpP n0 A A:=⟨nR _,fun _ _=>rfl⟩
variable {n0:Nat}{A C:World}{v:Value}
theorem KpP.trans {D:World}(h:KpP n0 A C)(k:KpP n0 C D):KpP n0 A D:=⟨nT h.1 k.1,fun b hb=>(k.2 b hb).trans (h.2 b hb)⟩
theorem KpP.fr (F:Fq A C)(h:n0<=A.heap.size):KpP n0 A C:=⟨F.size,fun b hb=>F.block b oM id⟩
theorem KpP.own {b e size n:Nat}{xs:List Value}(h:A.ownsRow b e size v n xs)(hn:∀ g,v.ownBlock=some g->g<n0)(K:KpP n0 A C):C.ownsRow b e size v n xs:=by
 obtain⟨hl,h0|⟨g,cap,cur,hv,hb,hg,r⟩⟩:=h
 ·exact⟨hl,.inl h0⟩
 ·exact⟨hl,.inr ⟨g,cap,cur,hv,hb,(K.2 g (hn g (by rw[hv];rfl))).trans hg,r⟩⟩
theorem rF0 (d p:Int)(va:Option Addr)(vn vc:Nat)(w:World) :
  Calls Tryz.prog 242 #[bkV d p (.slice va vn vc)] w fun e w'=>e = .returned (.func (.func 273) #[] #[.pointer (some ⟨w.heap.size,0,none⟩)])/\w.alloc (.cells #[.int .i64 d,.int .i64 p,.slice va vn vc] 129)=w':=by
 go_enter Tryz.func242,Tryz.ntmps242;go_wp2_with fail
 go_ret;exact⟨rfl,rfl⟩
def YR (J Jx:List (Bt × Bt)->World->Prop)(Kp:World->World->Prop)(pre:List (Bt × Bt))(W1:World)(b:Bool)(W':World):Prop:=(b=true/\J pre W'/\Kp W1 W')\/(b=false/\Jx pre W')
theorem nz0 {w:World}{bs:Nat}{d p:Int}{es:List Bt}(hs:w.heap[bs]?=some (.cells #[.int .i64 d,.int .i64 p,v] 129))(hE:bm0 w 0 v es)(hl:es.length<=255)(hso:aa0 es) :
  mz0 Fence.wide 9 Tryz.prog 273 #[.pointer (some ⟨bs,0,none⟩)] yU0 (fun x _=>x.1.hash<x.2.hash) (KpP w.heap.size) (fun _=>True) (fun _=>True) es.length w:=fun lp J Jx W hW hJ hJx hY h0=>by
 have FW:Fq w W:=Fr.of_below hW;obtain⟨va,vc,rfl,-,-,-,-⟩:=oSl hE;obtain⟨n,hn⟩:=eX es.length
 have hbs:=loh hs;have hs':=FW.heap hs id;have hE':=oN hE FW;have hEg:∀ g,(Value.slice va es.length vc).ownBlock=some g->g<w.heap.size:=fun g hg=>(aW0 hE hg).2
 have HE:=hid (fun C (K:KpP w.heap.size W C)=>KpP.own hE' hEg K);have HBs:=hid (fun C (K:KpP w.heap.size W C)=>cells3 ((K.2 bs hbs).trans hs'));obtain⟨c0,c1,c2,cz,cl⟩:=HBs.out W (KpP.refl _ _);have HSo:=hid hso;have H0:=hid h0;have HN:=hid hn;have hwW:=FW.size;have hn9:n<=255:=oM
 rw[hn] at c2;clear hs hE hs' hE' hEg hso hW FW h0 hl;refine callsIn_of_wp Tryz.func273 rfl trivial ?_ rfl;simp only[Tryz.ntmps273,zA,lC,lz9,Nat.reduceAdd,Nat.reduceSub,lq9,lr9,ly9,ls9,le9,lo9];gi_wp2
 gi_loopw [8] (fun iv wr=>∃ (k:Nat) (pre:List (Bt × Bt)),k<=n/\iv = .int .i64 k/\J pre wr/\pre.length<=k-1/\KpP w.heap.size W wr) (fun iv _=>n-(intOf iv).toNat)
 case atStart=>exact⟨0,[],la9 _,rfl,H0.out,nR _,KpP.refl _ _⟩
 case round =>
  obtain⟨k,pre,hk,rfl,hJp,hpl,hkp⟩:=hrel;by_cases hlt:k<n
  ·have hdl:decide (k<n)=true:=by simp[hlt]
   have hdl2:decide ((k:Int)<(n:Int))=true:=by simp[hlt]
   have hki:(k:Int)<(n:Int):=oM
   obtain⟨x,hx⟩:∃ x,es[k]?=some x:=⟨_,gE (by rw[HN.out];exact hlt)⟩
   obtain⟨g,rfl,hg,u0,u1,u2,u3⟩:=bG0 (HE.out wr hkp) hx;obtain⟨W1,hW1⟩:=eX (wr.alloc (.cells #[.int .u64 x.hash,.int .i64 x.rg,.int .i64 x.at_,.int .i64 x.sz] 118))
   have F1:Fq wr W1:=by rw[<- hW1];exact (Fr.refl _ _).alloc _
   have b4:W1.heap[wr.heap.size]?=some (.cells #[.int .u64 x.hash,.int .i64 x.rg,.int .i64 x.at_,.int .i64 x.sz] 118):=by rw[<- hW1];exact han _ _
   have hJ1:J pre W1:=fW0 hJ hJp F1;have hJ1d:J pre W1.drew:=fW0 hJ hJ1 (Fr.refl _ _).drew;have hwr:w.heap.size<=wr.heap.size:=nT hwW hkp.1;have hkp1:KpP w.heap.size W W1:=hkp.trans (KpP.fr F1 hwr);obtain⟨t0,t1,t2,t3,tz,tl⟩:=ah0 b4;have H1:=hi2 hkp1 (aI hJ1d hpl);have HJ1:=hid hJ1;have HX:=hid hx;have HW1:=hid hW1;obtain⟨c0,c1,c2,cz,cl⟩:=HBs.out W1 hkp1;rw[HN.out] at c2;clear hJp hkp hkp1 hJ1 hJ1d hW1 F1 b4 hx;by_cases hk0:k=0
   ·have hd0:decide (0<k)=false:=(by simp[hk0]);have hd0':decide ((0:Int)<(k:Int))=false:=(by simp[hk0]);have HK0:=hid hk0;clear hk0;gi_wp2
    rw[HW1.out];gi_big_quiet_th (fail)
    gi_wp2
    go_roundw;case rel=>exact⟨k+1,pre,hlt,by go_num,fW0 hJ HJ1.out ((Fr.refl _ _).drewN _),by have:=H1.out.2.2;omega,H1.out.1⟩
    case measure=>simp[intOf];omega
   ·obtain⟨j,hj⟩:∃ j,k=j+1:=⟨k-1,oM⟩
    obtain⟨y,hy0⟩:∃ y,es[j]?=some y:=⟨_,gE (by rw[HN.out];omega)⟩
    have hxy:y.hash<x.hash:=iV0 HSo.out hy0 HX.out oM;obtain⟨g',e',hg',v0,v1,v2,v3⟩:=bG0 (HE.out W1 H1.out.1) hy0;cases e';have hd0:decide (0<k)=true:=sO;have hd0':decide ((0:Int)<(k:Int))=true:=sO;have hs1:wrap64 ((k:Int)-1)=(j:Int):=(by simp only[wrap64];omega);have hs2:IntKind.i64.wrap ((k:Int)-1)=(j:Int):=(by rw[IntKind.wrap_i64];omega);have hjn:j<n:=oM;have hji:(j:Int)<(n:Int):=oM;have hpl2:pre.length<es.length:=(by have:=H1.out.2.2;rw[HN.out];omega);have HJ:=hi2 hj (aI hxy hpl2);obtain⟨fn,tmps,assign,body,hy,hR⟩:=hY pre (y,x) W1.drew H1.out.2.1 hxy hpl2;dsimp only[yU0] at hy;have hR':=hR.mono (fun e W' h=>(show ∃ b,e = .returned (.bool b)/\YR J Jx (KpP w.heap.size) (pre++[(y,x)]) W1.drew b W' from by
     rcases h with⟨rfl,h1,h2⟩|⟨rfl,h1⟩
     ·exact⟨true,rfl,.inl ⟨rfl,h1,h2⟩⟩
     ·exact⟨false,rfl,.inr ⟨rfl,h1⟩⟩))
    have HR:=hid hR';clear hR hR' hj hxy hpl2 hy0 hk0;gi_wp2
    rw[HW1.out];clear u0 u1 u2 u3;have hmo:Tryz.prog.follows .mixedOrders=true:=kF;gi_region_with_o (refine HR.out.mono ?_;rintro e W3 ⟨bb,rfl,hYR⟩;have HY:=hid hYR;clear hYR)
    all_goals
     cases bb with
     | true =>
      have hY2:J (pre++[(y,x)]) W3/\KpP w.heap.size W1.drew W3:=by
       rcases HY.out with⟨-,h1,h2⟩|⟨h1,-⟩
       ·exact⟨h1,h2⟩
       ·cases h1
      have HY2:=hid hY2;clear hY2;gi_wp2
      go_roundw;case rel =>
       refine⟨k+1,pre++[(y,x)],hlt,by go_num,HY2.out.1,?_,(H1.out.1.trans (KpP.fr (Fr.refl _ _).drew (nT hwW H1.out.1.1))).trans HY2.out.2⟩;have:=H1.out.2.2;have:=HJ.out.1;rw[lA,mn9];omega
      case measure=>simp[intOf];omega
     | false =>
      have hY2:Jx (pre++[(y,x)]) W3:=by
       rcases HY.out with⟨h1,-⟩|⟨-,h1⟩
       ·cases h1
       ·exact h1
      have HY2:=hid hY2;clear hY2;gi_wp2
      refine bodyPost_ret (results_none rfl _ _ _) rfl ?_;exact⟨⟨_,rfl⟩,.inr ⟨_,trivial,HY2.out⟩⟩
  ·obtain rfl:k=n:=by omega
   have hdl:decide (k<k)=false:=by simp
   have hdl2:decide ((k:Int)<(k:Int))=false:=by simp
   gi_wp2
   go_end0
   exact⟨⟨_,rfl⟩,.inl ⟨pre,trivial,hJp⟩⟩
