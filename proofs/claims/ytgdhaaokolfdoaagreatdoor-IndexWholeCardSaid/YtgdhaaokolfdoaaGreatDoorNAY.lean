/- A pack of texts. Conditions: those that each names. -/
import Derived.Test.YtgdhaaokolfdoaaGreatDoorNAX
set_option maxHeartbeats 16000000
set_option maxRecDepth 100000
set_option linter.all false
namespace Go.Proofs.YtgdhaaokolfdoaaGreatDoor
open Tryz
section
open Go.RowKit Go.Sg CP SF
def DJ0 (f:Bt->Bool)(es:List Bt)(w:w9)(e:Ending)(w':w9):Prop:=∃ z:Int,e = rT (iI z)/\decide (0<=z)=es.any f/\Fq w w'
variable {w w':w9}{v:Value}{es:List Bt}{N base bd bx g h k r:Nat}{a:Bool}{sp:Int}
def tr0 (hE:Y3 w 0 v es)(hl:es.length<=255)(cap:Addr)(f:Bt->Bool)(hf:∀ (x:Bt),x ∈ es->∀ (W:w9),Fq w W->cP 244 #[E8 x,pO (some cap)] W (bt (bO (f x)) W)) :
  cP 274 #[v,.func (.func 244) #[] #[pO (some cap)]] w (DJ0 f es w):=by
 obtain⟨va,vc,rfl,-,-,-,-⟩:=A2 hE;obtain⟨n,hn⟩:=eX es.length
 have pP:n<=255:=oM
 have HE:=hid hE;have HN:=hid hn;have HC:=hid hf;rw[hn];clear hE hn hl hf;go_enter func274,ntmps274;go_wp2_with fail
 go_loopw [8] (fun iv wr=>∃ k:Nat,k<=n/\iv = iI k/\(∀ x ∈ es.take k,f x=false)/\Fq w wr) fun iv _=>n-(intOf iv).toNat
 case atStart=>exact⟨0,C3 _,rfl,fun x hx=>by simp at hx,fR⟩
 case round =>
  obtain⟨k,hk,rfl,hno,hF⟩:=hrel;have HNo:=hid hno;clear hno;by_cases hlt:k<n
  .have hd:decide (k<n)=true:=by simp[hlt]
   have cF:(k:Int)<(n:Int):=oM
   obtain⟨x,hx⟩:∃ x,es[k]?=some x:=⟨_,gE (by rw[HN.o];exact hlt)⟩
   obtain⟨g,rfl,hg,u0,u1,u2,u3⟩:=pj (oN HE hF) hx;have yE:=hid (HC.o x (gM hx) wr hF);have HX:=hid hx;have HF:=hid hF;clear hx hF;go_wp2_with fail
   refine yE.mono ?_;rintro e W2 ⟨rfl,F2⟩;have Y0:=hid (HF.trans F2 nI);clear F2;cases hfx:f x with
   | true =>
    have bE:=hid hfx;clear hfx;go_wp2_with fail
    go_ret;refine⟨(k:Int),rfl,?_,Y0.o⟩;rw[show es.any f=true from vK.2 ⟨x,gM HX.o,bE.o⟩];simp
   | false =>
    have bE:=hid hfx;clear hfx;go_wp2_with fail
    go_roundw;case rel =>
     refine⟨k+1,hlt,by go_num,fun y hy=>?_,Y0.o⟩;rw[ea,HX] at hy;rcases X5.1 hy with hy|hy
     .exact HNo y hy
     .simp at hy;subst hy;exact bE
    case measure=>exact wM
  .obtain rfl:k=n:=by omega
   have hd:decide (k<k)=false:=by simp
   have HF:=hid hF;have Y2:es.any f=false:=by
    rw[Bool.eq_false_iff];intro h;obtain⟨x,hx,h1⟩:=vK.1 h;have:=HNo.o x (by rw[tL (by rw[HN];exact nR _)];exact hx);rw[h1] at this;cases this
   have HA:=hid Y2;clear hF Y2;go_wp2_with fail
   go_ret;exact⟨-1,rfl,by rw[HA];rfl,HF.o⟩
def lP0 (hE:Y3 w 0 v es)(hl:es.length<=255)(cap:Addr)(f:Bt->Bool)(hf:∀ (x:Bt),x ∈ es->∀ (W:w9),Fq w W->cP 244 #[E8 x,pO (some cap)] W (bt (bO (f x)) W)) :
  cP 243 #[v,.func (.func 244) #[] #[pO (some cap)]] w (bt (bO (es.any f)) w):=by
 have HI:=hid (tr0 hE hl cap f hf);clear hE hl hf;go_enter func243,ntmps243;go_wp2_with fail
 refine HI.mono ?_;rintro e w2 ⟨z,rfl,hz,F2⟩;obtain⟨b,hb⟩:=eX (es.any f)
 rw[hb] at hz;have Y0:=hid F2;have oH:=hid hb;clear F2 hb;go_wp2_with fail
 go_ret;exact⟨by rw[oH];rfl,Y0.o⟩
def jl (x:Bt):List Int:=Sg.leB x.hash 8++Sg.leB x.rg.toNat 8++Sg.leB x.at_.toNat 2++Sg.leB x.sz.toNat 2
def Z6 (d p:Nat)(es:List Bt):List Int:=Sg.leB d 1++Sg.leB es.length 1++Sg.leB p 8++es.flatMap jl
def vO0 (x:Bt):(jl x).length=20:=by simp[jl,e8]
def Xa (es:List Bt):(es.flatMap jl).length=20*es.length:=by
 induction es with
 | nil=>rfl
 | cons x es ih=>rw[dj,lA,vO0,ih,lC];omega
def tK0 (d p:Nat)(es:List Bt):(Z6 d p es).length=10+20*es.length:=by
 simp only[Z6,lA,e8,Xa]
def CP0 (d p:Nat)(es:List Bt)(w:w9)(e:Ending)(w':w9):Prop:=
 ∃ a c,e = rT (tU #[sL a (10+20*es.length) c,iI 0])/\T0 w' a (10+20*es.length) c (Z6 d p es)/\Fq w w'
def tZ (x:Bt):Prop:=x.hash<18446744073709551616/\(0<=x.rg/\x.rg<=1099511627776)/\(0<=x.at_/\x.at_<=65535)/\(0<=x.sz/\x.sz<=65535)
def YC {limit:Nat}{bs:List Int}(h:bQ w base r bs limit)(Z0:base<=w)(n k:Nat)(hk:k=1\/k=2\/k=4\/k=8)(hn:n<18446744073709551616)(hroom:bs.length+k<=limit) :
  cP 179 #[pO r,iU n,iI k] w fun e w'=>e = rT (tU #[])/\bQ w' base r (bs++Sg.leB n k) limit/\Fr (fun b=>base<=b) w w':=
 (BC h Z0 n k hk hn hroom).mono fun e w' ⟨a,b,c⟩=>⟨a,b,c.mono fun _ _ h=>h.1⟩
def Xf {c:Array Value}(F:Fr (wJ w base r) w w')(hb:w.heap[g]?=some (.cells c 118))(hne:g≠r):w'.heap[g]?=some (.cells c 118):=
 F.heap hb (fun h=>by
  rcases h.2 with h|⟨c',h⟩
  .exact hne h
  .rw[hb] at h;cases h)
def PP (hE:Y3 w 0 v es)(hl:es.length<=24)(hg:∀ x ∈ es,tZ x)(d p sl:Nat)(hd:d<=20)(hp:p<1048576)(X3:es.length<=sl)(hs9:sl<=255)(hR:∀ W,Fq w W->cP 190 #[E9 d p v,iI sl] W (bt (bO true) W)) :
  cP 188 #[E9 d p v,iI sl] w (CP0 d p es w):=by
 obtain⟨va,vc,rfl,-,-,-,-⟩:=A2 hE;obtain⟨n,hn⟩:=eX es.length
 obtain⟨w1,I0⟩:=eX (w.alloc (.cells #[iI d,iI p,sL va n vc] 129))
 have b1:=fB I0
 have F1:=fA I0
 have HB:=hid fun W (F:Fq w1 W)=>cells3 (F.heap b1 id);have HE:=hid fun W (F:Fq w1 W)=>oN (oN hE F1) F;have E1:=hid F1;have HN:=hid hn;have hn24:n<=24:=oM
 have hnsl:n<=sl:=oM
 have HG:=hid hg;have uL:=hid (hR w1 F1);have HW:=hid I0;obtain⟨x0,x1,x2,xz,xl⟩:=HB.o _ fR;rw[hn] at uL ⊢;clear hE hl hg X3 hR hn I0 b1 F1;go_enter func188,ntmps188;go_upto_region 1 with fail
 rw[HW];go_wp2_with fail
 refine uL.mono ?_;rintro e w2 ⟨rfl,F2⟩;have Y0:=hid F2;clear F2 x0 x1 x2 xz xl;have hmul:wrap64 (20*(sl:Int))=((20*sl:Nat):Int):=by simp only[wrap64];omega
 have wm:=hid (Tm (10+20*sl) oM w2);have GU:=hid (show cP 178 #[iI (10+20*(sl:Int))] w2 _ by have:=wm.o;simpa using this);go_wp2_with fail
 refine GU.mono ?_;rintro e w3 ⟨rfl,S5,F3⟩;obtain⟨x0,x1,x2,xz,xl⟩:=HB.o _ (Y0.trans F3 nI);have aJ:=hid (YC S5 F3.size d 1 sP oM sO);have N5:=hid (Y0.trans F3 nI);have Fw:w2.heap.size<w3.heap.size:=by obtain⟨⟨u,hr,_⟩,_⟩:=S5;exact M0 hr
 have hs12:=Y0.size;clear S5 F3 wm GU;go_wp2_with fail
 refine aJ.mono ?_;rintro e w4 ⟨rfl,jA,F4⟩;have qr:=N5.trans F4 fun b hb h=>oM;obtain⟨x0,x1,x2,xz,xl⟩:=HB.o _ qr;have qE:=hid (YC jA (by have:=F4.size;omega) n 1 sP oM (by simp[e8];omega));have p8:=hid qr;clear jA F4 qr aJ;go_wp2_with fail
 refine qE.mono ?_;rintro e w5 ⟨rfl,iP,F5⟩;have jo:=p8.trans F5 fun b hb h=>oM;obtain⟨x0,x1,x2,xz,xl⟩:=HB.o _ jo;have uK:=hid (YC iP (by have:=jo.size;have:=M0 iP.ex.choose_spec.1;omega) p 8 sP oM (by first|(simp[e8];done)|(simp[e8];omega)));have fT:=hid jo;clear iP F5 jo qE;go_wp2_with fail
 refine uK.mono ?_;rintro e w6 ⟨rfl,Jr,F6⟩;have Rk:=fT.trans F6 fun b hb h=>oM;obtain⟨x0,x1,x2,xz,xl⟩:=HB.o _ Rk;have H6:=hi2 Jr Rk;clear Jr F6 Rk uK;go_wp2_with fail
 go_loopw [36] (fun iv wr=>∃ k:Nat,k<=n/\iv = iI k/\bQ wr w2.heap.size w2.heap.size (Sg.leB d 1++Sg.leB n 1++Sg.leB p 8++(es.take k).flatMap jl) (10+20*sl)/\Fq w1 wr) fun iv _=>n-(intOf iv).toNat
 case atStart=>exact⟨0,C3 _,rfl,by simpa using H6.1,H6.2⟩
 case round =>
  obtain⟨k,hk,rfl,Cl,hF⟩:=hrel;by_cases hlt:k<n
  .have T6:decide (k<n)=true:=by simp[hlt]
   have cF:(k:Int)<(n:Int):=oM
   obtain⟨x,hx⟩:∃ x,es[k]?=some x:=⟨_,gE (by rw[HN.o];exact hlt)⟩
   obtain⟨g,rfl,hg,u0,u1,u2,u3⟩:=pj (HE _ hF) hx;obtain⟨g0,g1,g2,g3⟩:=HG.o x (gM hx);obtain⟨xh,xr,xa,xs⟩:=x;simp only at u0 u1 u2 u3 g0 g1 g2 g3;obtain⟨xr,rfl⟩:=iZ g1.1;obtain⟨xa,rfl⟩:=iZ g2.1;obtain⟨xs,rfl⟩:=iZ g3.1;have Lo:IntKind.u64.wrap (xr:Int)=(xr:Int):=by simp[IntKind.wrap,IntKind.signed,IntKind.bits];omega
   have Lp:IntKind.u64.wrap (xa:Int)=(xa:Int):=by simp[IntKind.wrap,IntKind.signed,IntKind.bits];omega
   have PI:IntKind.u64.wrap (xs:Int)=(xs:Int):=by simp[IntKind.wrap,IntKind.signed,IntKind.bits];omega
   have C8:xr<=1099511627776/\xa<=65535/\xs<=65535:=oM
   obtain⟨W,hW⟩:=eX (wr.alloc (.cells #[iU xh,iI xr,iI xa,iI xs] 118))
   have bW:=fB hW
   have FW:=fA hW
   have mW:w2.heap.size<wr.heap.size:=by obtain⟨⟨u,hr,_⟩,_⟩:=Cl;exact M0 hr
   have hne:wr.heap.size≠w2.heap.size:=oM
   obtain⟨pre,hpre⟩:=eX (Sg.leB d 1++Sg.leB n 1++Sg.leB p 8++(es.take k).flatMap jl)
   have X9:pre.length=10+20*k:=by
    rw[<- hpre];simp only[lA,e8,Xa,lT,HN.o];omega
   rw[hpre] at Cl;have Js:=Cl.fr FW fun _ _ _ h=>h;have HX:=hid hx;have mf:=hi2 hpre X9;have fU:=hid (hF.trans FW nI);have fw:=hid hW;have nu:=hid bW;have fq:=hid (BC Js (by have:=FW.size;omega) xh 8 sP g0 oM);clear hx hpre X9 Cl Js hF FW hW bW g1 g2 g3;go_upto_region 10 with fail
   rw[fw];clear u0 u1 u2 u3;obtain⟨t0,t1,t2,t3,tz,tl⟩:=D8 nu.o;go_wp2_with fail
   refine fq.mono ?_;rintro e W3 ⟨rfl,S5,F3⟩;have Tg:=Xf F3 nu hne;obtain⟨t0,t1,t2,t3,tz,tl⟩:=D8 Tg;have oJ:=hid (BC S5 (by have:=F3.size;omega) xr 8 sP oM (by rw[lA,mf.2,e8];omega));have GG:=hid (fU.trans F3 fun b hb h=>by have:=h.1;omega);have cN:=hid Tg;clear S5 F3 Tg fq;go_wp2_with fail
   refine oJ.mono ?_;rintro e W4 ⟨rfl,jA,F4⟩;have Th:=Xf F4 cN hne;obtain⟨t0,t1,t2,t3,tz,tl⟩:=D8 Th;have AO:=hid (BC jA (by have:=GG.size;have:=F4.size;omega) xa 2 sP oM (by rw[lA,lA,mf.2,e8,e8];omega));have GH:=hid (GG.trans F4 fun b hb h=>by have:=h.1;omega);have T5:=hid Th;clear jA F4 Th oJ;go_wp2_with fail
   refine AO.mono ?_;rintro e W5 ⟨rfl,iP,F5⟩;have bW5:=Xf F5 T5 hne;obtain⟨t0,t1,t2,t3,tz,tl⟩:=D8 bW5;have Ef:=hid (BC iP (by have:=GH.size;have:=F5.size;omega) xs 2 sP oM (by rw[lA,lA,lA,mf.2,e8,e8,e8];omega));have RP:=hid (GH.trans F5 fun b hb h=>by have:=h.1;omega);clear iP F5 bW5 AO;go_wp2_with fail
   refine Ef.mono ?_;rintro e W6 ⟨rfl,Jr,F6⟩;have ZB:=hi2 Jr (RP.trans F6 fun b hb h=>by have:=h.1;omega);clear Jr F6 Ef;go_wp2_with fail
   go_roundw;case rel =>
    refine⟨k+1,hlt,by go_num,?_,ZB.2⟩;have e1:Sg.leB d 1++Sg.leB n 1++Sg.leB p 8++(es.take (k+1)).flatMap jl=pre++Sg.leB xh 8++Sg.leB xr 8++Sg.leB xa 2++Sg.leB xs 2:=by
     rw[ea,HX,<- mf.1];simp[jl]
    rw[e1];exact ZB.1
   case measure=>exact wM
  .obtain rfl:k=n:=by omega
   have T6:decide (k<k)=false:=by simp
   rw[tL (by rw[HN];exact nR _)] at Cl;have hlen:(Sg.leB d 1++Sg.leB k 1++Sg.leB p 8++es.flatMap jl).length=10+20*k:=by
    simp only[lA,e8,Xa,HN.o]
   have MZ:=hid (On Cl);rw[hlen] at MZ;have HF:=hid hF;clear Cl hF hlen;go_wp2_with fail
   refine MZ.mono ?_;rintro e w7 ⟨a7,c7,rfl,⟨E6,-⟩,F7⟩;have H7:=hi2 E6 F7;clear E6 F7;go_wp2_with fail
   go_ret2;refine⟨a7,c7,by rw[HN];rfl,?_,(E1.trans HF nI).trans H7.2 nI⟩;unfold Z6;rw[HN];exact H7.1
def S8 (d p:Nat)(es:List Bt):Prop:=es.length<=3/\m9 es/\∀ x ∈ es,tZ x/\X0 x.hash d=p
def ee:Tr->Nat->Nat->Prop
 | .leaf _ es,d,p=>S8 d p es
 | .node l r,d,p=>ee l (d+1) (2*p)/\ee r (d+1) (2*p+1)
def aj:Tr->Nat->Nat->List Bp
 | .leaf r es,d,p=>[(r,Z6 d p es)]
 | .node l r,d,p=>aj l (d+1) (2*p)++aj r (d+1) (2*p+1)
def Mj:∀ (t:Tr) (g k d p:Nat),∃ A C,∀ f,aj (t.put g k f) d p=A++(aj (f (t.at_ g k d p).2.2.1 (t.at_ g k d p).2.2.2) (t.at_ g k d p).1 (t.at_ g k d p).2.1++C)
 | .leaf r es,g,k,d,p=>⟨[],[],fun f=>by simp[Tr.put,Tr.at_]⟩
 | .node l r,g,k,d,p=>by
  by_cases hlt:k<2^(g-1)
  .obtain⟨A,C,h⟩:=Mj l (g-1) k (d+1) (2*p);refine⟨A,C++aj r (d+1) (2*p+1),fun f=>?_⟩;simp only[Tr.put,Tr.at_,if_pos hlt,aj];rw[h f];simp
  .obtain⟨A,C,h⟩:=Mj r (g-1) (k-2^(g-1)) (d+1) (2*p+1);refine⟨aj l (d+1) (2*p)++A,C,fun f=>?_⟩;simp only[Tr.put,Tr.at_,if_neg hlt,aj];rw[h f];simp
def BD:∀ (t:Tr) (g k:Nat),t.put g k Tr.leaf=t
 | .leaf r es,g,k=>rfl
 | .node l r,g,k=>by
  simp only[Tr.put];split
  .rw[BD l]
  .rw[BD r]
def Gb:∀ (t:Tr) (g k d p:Nat),ee t d p->S8 (t.at_ g k d p).1 (t.at_ g k d p).2.1 (t.at_ g k d p).2.2.2
 | .leaf r es,g,k,d,p,h=>h
 | .node l r,g,k,d,p,h=>by
  simp only[Tr.at_];split
  .exact Gb l _ _ _ _ h.1
  .exact Gb r _ _ _ _ h.2
def Mi (f:Rf->List Bt->Tr):∀ (t:Tr) (g k d p:Nat),ee t d p->ee (f (t.at_ g k d p).2.2.1 (t.at_ g k d p).2.2.2) (t.at_ g k d p).1 (t.at_ g k d p).2.1->ee (t.put g k f) d p
 | .leaf r es,g,k,d,p,_,h=>h
 | .node l r,g,k,d,p,h0,h=>by
  simp only[Tr.at_] at h;simp only[Tr.put];split at h
  .rename_i hlt;rw[if_pos hlt];exact⟨Mi f l _ _ _ _ h0.1 h,h0.2⟩
  .rename_i hlt;rw[if_neg hlt];exact⟨h0.1,Mi f r _ _ _ _ h0.2 h⟩
def Yj:∀ (t:Tr) (g k d p:Nat),t.high<=g->t.at_ (g+1) (2*k) d p=t.at_ g k d p
 | .leaf r es,g,k,d,p,_=>rfl
 | .node l r,g,k,d,p,h=>by
  simp only[Tr.high] at h;have h2:=Tr.se (g:=g) oM;simp only[Tr.at_,vJ];obtain⟨m,rfl⟩:∃ m,g=m+1:=⟨g-1,oM⟩
  simp only[vJ] at h2 ⊢;by_cases hlt:k<2^m
  .rw[if_pos hlt,if_pos oM];exact Yj l m k _ _ oM
  .rw[if_neg hlt,if_neg oM,show 2*k-2^(m+1)=2*(k-2^m) by omega];exact Yj r m _ _ _ oM
def Oc (f:Rf->List Bt->Tr)(hf:∀ r es,(f r es).high=0):∀ (t:Tr) (g k:Nat),(t.put g k f).high=t.high
 | .leaf r es,g,k=>by simp[Tr.put,Tr.high,hf]
 | .node l r,g,k=>by
  simp only[Tr.put];split
  .simp only[Tr.high];rw[Oc f hf l]
  .simp only[Tr.high];rw[Oc f hf r]
def OB (f:Rf->List Bt->Tr)(hf:∀ r es,(f r es).high=1):∀ (t:Tr) (g k d p:Nat),(t.put g k f).high=max t.high ((t.at_ g k d p).1-d+1)
 | .leaf r es,g,k,d,p=>by simp[Tr.put,Tr.high,Tr.at_,hf]
 | .node l r,g,k,d,p=>by
  simp only[Tr.put,Tr.at_];split
  .have h1:=OB f hf l (g-1) k (d+1) (2*p);have h2:=Tr.QS l (g-1) k (d+1) (2*p);simp only[Tr.high];rw[h1];omega
  .have h1:=OB f hf r (g-1) (k-2^(g-1)) (d+1) (2*p+1);have h2:=Tr.QS r (g-1) (k-2^(g-1)) (d+1) (2*p+1);simp only[Tr.high];rw[h1];omega
def ER:∀ (t:Tr) (d p:Nat),(aj t d p).length=t.refs.length
 | .leaf _ _,_,_=>rfl
 | .node l r,d,p=>by simp only[aj,Tr.refs,lA,ER l,ER r]
def BK:∀ t:Tr,t.refs.length<=2^t.high
 | .leaf _ _=>by simp[Tr.refs,Tr.high]
 | .node l r=>by
  have h1:=BK l;have h2:=BK r;have h3:2^l.high<=2^max l.high r.high:=aZ dC (Nat.le_max_left _ _);have h4:2^r.high<=2^max l.high r.high:=aZ dC (Nat.le_max_right _ _);simp only[Tr.refs,Tr.high,lA,dB];omega
def Iw (h:Nat):X0 h 0=0:=by simp[X0]
def LJ {d:Nat}(hg:g<=20)(hd:d<=g)(hh:h<18446744073709551616):X0 h g/2^(g-d)=X0 h d:=by
 by_cases h0:d=0
 .subst h0;rw[Iw];by_cases g0:g=0
  .subst g0;simp[Iw]
  .unfold X0;rw[if_neg oM,Ak,<- Aq,show 64-g+(g-0)=64 by omega];exact DK hh
 .unfold X0;rw[if_neg oM,if_neg oM,Ak,<- Aq,show 64-g+(g-d)=64-d by omega]
def LI (hg:g<=20)(hh:h<18446744073709551616):X0 h g<2^g:=by
 by_cases g0:g=0
 .subst g0;rw[Iw];decide
 .unfold X0;rw[if_neg oM];refine Nat.div_lt_of_lt_mul ?_;rw[<- Aq,show 64-g+g=64 by omega];exact hh
def fS (lo n:Nat):List Nat:=(List.range n).map (lo + ·)
def LM {lo n i:Nat}:i ∈ fS lo n↔lo<=i/\i<lo+n:=by
 simp only[fS,N4,List.mem_range];constructor
 .rintro⟨j,hj,rfl⟩;omega
 .rintro⟨h1,h2⟩;exact⟨i-lo,oM,oM⟩
def te0 {α:Type}(l m:List α)(lo n:Nat)(h:lo+n<=l.length)(hm:m.length=n)(i:Nat):(l.take lo++m++l.drop (lo+n))[i]?=if i<lo then l[i]? else if i<lo+n then m[i-lo]? else l[i]?:=by
 have hl:(l.take lo).length=lo:=by rw[lT];omega
 rw[dD];by_cases h1:i<lo
 .rw[if_pos h1,jn oM,gT,if_pos h1]
 .rw[if_neg h1,kN oM,hl];by_cases h2:i<lo+n
  .rw[if_pos h2,jn oM]
  .rw[if_neg h2,kN oM,hm,jJ];congr 1;omega
def xz0 (l:List Rf)(lo n:Nat)(h:lo+n<=l.length)(r:Rf):R4 l (fS lo n) r=l.take lo++List.replicate n r++l.drop (lo+n):=by
 refine EO fun i=>?_
 rw[oW,te0 _ _ _ _ h sP];simp only[LM];by_cases h1:i<lo
 .rw[if_neg oM,if_pos h1]
 .rw[if_neg h1];by_cases h2:i<lo+n
  .rw[if_pos oM,if_pos h2,rk,if_pos oM,gE oM];rfl
  .rw[if_neg oM,if_neg h2]
variable {t:Tr}
def jD0 (hh:t.high<=g)(hk:k<2^g)(r:Rf)(f:Rf->List Bt->Tr)(hf:∀ r' es',∃ es,f r' es' = .leaf r es):R4 (t.slots g) (fS (t.lo g k) (2^t.wd g k)) r=(t.put g k f).slots g:=by
 obtain⟨h1,h2,h3⟩:=Tr.lo_le t g k hh hk;rw[xz0 _ _ _ (by rw[Tr.uO t g hh];exact h3),Tr.mR0 f t g k hh hk];obtain⟨es,he⟩:=hf (t.at_ g k 0 0).2.2.1 (t.at_ g k 0 0).2.2.2;rw[he];rfl
def ri0 (hh:t.high<=g)(hk:k<2^g)(hw:0<t.wd g k)(r0 r1:Rf)(f:Rf->List Bt->Tr)(hf:∀ r' es',∃ e0 e1,f r' es' = .node (.leaf r0 e0) (.leaf r1 e1)) :
  R4 (R4 (t.slots g) (fS (t.lo g k+2^(t.wd g k-1)) (2^(t.wd g k-1))) r1) (fS (t.lo g k) (2^(t.wd g k-1))) r0=(t.put g k f).slots g:=by
 obtain⟨h1,h2,h3⟩:=Tr.lo_le t g k hh hk;obtain⟨m,hm⟩:∃ m,t.wd g k=m+1:=⟨t.wd g k-1,oM⟩
 have hl:=Tr.uO t g hh;rw[Tr.mR0 f t g k hh hk];obtain⟨e0,e1,he⟩:=hf (t.at_ g k 0 0).2.2.1 (t.at_ g k 0 0).2.2.2;rw[he];rw[hm] at h3 ⊢;simp only[Tr.slots,vJ];have hp:2^(m+1)=2^m+2^m:=by rw[dB];omega
 generalize 2^m=q at *
 generalize t.lo g k=lo at *
 generalize t.slots g=l at *
 rw[hp] at h3 ⊢;refine EO fun i=>?_
 rw[oW,oW,te0 _ _ _ _ oM sP];simp only[LM];by_cases h1:i<lo
 .rw[if_neg oM,if_neg oM,if_pos h1]
 .rw[if_neg h1];by_cases h2:i<lo+(q+q)
  .rw[if_pos h2];have gn:l[i]?=some (l[i]'oM):=gE _;by_cases h4:i<lo+q
   .rw[if_pos oM,if_neg oM,jn sO,rk,if_pos oM,gn];rfl
   .rw[if_neg oM,if_pos oM,kN sO,rk,if_pos sO,gn];rfl
  .rw[if_neg oM,if_neg oM,if_neg h2]
def set_perm {α:Type}{L A C:List α}{q q':α}{j:Nat}(hp:L.Perm (A++(q :: C)))(hj:L[j]?=some q):(L.set j q').Perm (A++(q' :: C)):=by
 have hjl:=(gI.1 hj).1;have e1:L=L.take j++q :: L.drop (j+1):=by
  conv=>lhs;rw[<- Mb j L]
  rw[FT hjl,(gI.1 hj).2]
 have e2:L.set j q'=L.take j++q' :: L.drop (j+1):=by rw[List.set_eq_take_append_cons_drop,if_pos hjl]
 have h1:(q :: (L.take j++L.drop (j+1))).Perm (q :: (A++C)):=(Qv.symm.trans (by rw[<- e1];exact hp)).trans Qv;have h2:=(List.perm_cons q).1 h1;rw[e2];exact Qv.trans (((List.perm_cons q').2 h2).trans Qv.symm)
structure bR (w:w9)(B:P0)(bx bd:Nat)(y:Cs)(P:J2)(a:Bool)(N:Nat)(x:P1)(t:Tr)(sp:Int):Prop where
 ex:∃ E0 L,Y1 w B bx bd y P a N x E0 (t.slots x.depth) L sp/\L.Perm (aj t 0 0)
 high:t.high=x.depth
 ok:ee t 0 0
variable {B:P0}{y:Cs}{P:J2}{x:P1}
def bR.depth (h:bR w B bx bd y P a N x t sp):x.depth<=3:=by
 obtain⟨E0,L,h1,-⟩:=h.ex;exact h1.small.2.2
def bR.J0 (h:bR w B bx bd y P a N x t sp)(F:Fq w w'):bR w' B bx bd y P a N x t sp:=by
 obtain⟨E0,L,h1,h2⟩:=h.ex;exact⟨⟨E0,L,h1.J0 F,h2⟩,h.high,h.ok⟩
def bR.mono {N':Nat}(h:bR w B bx bd y P a N x t sp)(hN:N<=N')(h9:N'<=90000):bR w B bx bd y P a N' x t sp:=by
 obtain⟨E0,L,h1,h2⟩:=h.ex;exact⟨⟨E0,L,h1.mono hN h9,h2⟩,h.high,h.ok⟩
end
section
open Go.RowKit Go.Sg Go.Sg.Bits Go.Shelf CP SF
attribute [local go_sem] Oper.semAt_some
def qC0 (p d g:Int)(w:w9) :
  cP 266 #[iI p,iI d,iI g] w fun e w'=>e = rT (.func (.func 284) #[] #[pO (aP (w+1) 0),pO (aP (w+1+1) 0),pO w])/\((w.alloc (.cells #[iI p] 3)).alloc (.cells #[iI d] 3)).alloc (.cells #[iI g] 3)=w':=by
 go_enter func266,ntmps266;go_wp2
 go_ret;exact⟨rfl,rfl⟩
def fk (p q m:Nat):List Int:=(List.range m).map fun i=>((p*q+i:Nat):Int)
def xv0 (p q m:Nat):fk p q (m+1)=fk p q m++[((p*q+m:Nat):Int)]:=by simp[fk,Ah]
def Qc (p q m:Nat):(fk p q m).length=m:=by simp[fk]
variable {b d e g n p size:Nat}{w:w9}{v:Value}{xs:List Value}
def zD0 (p q:Nat){a:Nat}(h:a<=b):fk p q a <+: fk p q b:=by
 obtain⟨c,rfl⟩:∃ c,b=a+c:=⟨b-a,oM⟩
 unfold fk;rw[List.range_add,B9];exact List.prefix_append _ _
def mJ0 (h:n<=1048576):wrap64 (n:Int)=(n:Int):=by simp only[wrap64];omega
def Br (b:Nat)(A C:w9):Prop:=C.heap[b]?=A.heap[b]?/\C.heap[b+1]?=A.heap[b+1]?/\C.heap[b+2]?=A.heap[b+2]?
def Br.trans {A C D:w9}(h:Br b A C)(k:Br b C D):Br b A D:=⟨k.1.trans h.1,k.2.1.trans h.2.1,k.2.2.trans h.2.2⟩
def kO0 (h0:w.heap[b]?=some (.cells #[iI p] 3))(h1:w.heap[b+1]?=some (.cells #[iI d] 3))(h2:w.heap[b+2]?=some (.cells #[iI g] 3))(hd:d<=g)(hg:g<=20)(hp:p<2^d) :
  SeqStopsK Fence.wide 9 prog 284 #[pO (aP (b+1) 0),pO (aP (b+1+1) 0),pO b] MF (Br b) (fun xs=>xs=fk p (2^(g-d)) (2^(g-d))) (fun pre=>pre <+: fk p (2^(g-d)) (2^(g-d))) (2^(g-d)) w:=fun l J Jx W hW hJ _ hY hJ0=>by
 have FW:Fq w W:=Fr.of_below hW;have HB:=hid (fun C (K:Br b W C)=>show C.cell? b=some (iI p)/\C.cell? (aA (b+1) 0)=some (iI d)/\C.cell? (aA (b+1+1) 0)=some (iI g) from
  ⟨by simpa using G0 (K.1.trans (FW.heap h0 id)) 0,by simpa using G0 (K.2.1.trans (FW.heap h1 id)) 0,by simpa using G0 (K.2.2.trans (FW.heap h2 id)) 0⟩)
 obtain⟨c0,c1,c2⟩:=HB.o W ⟨rfl,rfl,rfl⟩;obtain⟨k,hk⟩:=eX (g-d)
 have Vl:k<=20:=oM
 have av:decide ((d:Int)<0)=false:=by simp
 have ic:decide (g<d)=false:=by simp;omega
 have UN:decide ((g:Int)<(d:Int))=false:=by simp;omega
 have ie:decide ((20:Int)<(g:Int))=false:=by simp;omega
 have kB:decide (20<g)=false:=by simp;omega
 have ti:decide ((p:Int)<0)=false:=by simp
 have jh:wrap64 ((g:Int)-(d:Int))=(k:Int):=by simp only[wrap64];omega
 obtain⟨q,hq⟩:=eX (2^k)
 have hq9:q<=1048576:=by rw[<- hq];exact nT (aZ dC Vl) dC
 have Fs:p*q+q<=1048576:=by
  have e1:p*2^k+2^k<=2^d*2^k:=by rw[<- nb];exact Nat.mul_le_mul_right _ hp
  rw[<- Aq,hq] at e1;exact nT e1 (nT (aZ dC oM) (by decide:(2:Nat)^20<=1048576))
 have hp9:p<1048576:=by
  have:=Nat.le_mul_of_pos_right p (show 0<q by rw[<- hq];exact iu dC);have pS:0<q:=by rw[<- hq];exact iu dC
  omega
 have Ld:wrap64 ((2:Int)^(g-d))=(q:Int):=by
  have e:(2:Int)^(g-d)=((2^(g-d):Nat):Int):=by simp
  rw[e,hk,hq];simp only[wrap64];omega
 obtain⟨pq,xJ⟩:=eX (p*q)
 rw[xJ] at Fs;have hmul:wrap64 ((p:Int)*(q:Int))=(pq:Int):=by
  rw[<- Int.natCast_mul,xJ];exact mJ0 (nT (Nat.le_add_right _ _) Fs)
 have VW:(p:Int)/2^d=0:=by
  have:p/2^d=0:=DK hp;have e:((p:Int)/2^d)=((p/2^d:Nat):Int):=by simp
  rw[e,this];rfl
 have HK:=hi2 hk (aI hq xJ);have HJ0:=hid hJ0;rw[hk,hq];rw[hk,hq] at hY;clear hW FW h0 h1 h2 hk hJ0 hq xJ;refine callsIn_of_wp func284 rfl trivial ?_ rfl;simp only[ntmps284,zA,lC,cJ,Nat.reduceAdd,Nat.reduceSub,dV,dW,dZ,dX,C7,ak];gi_wp2
 rw[Ld];clear Ld;gi_loopw [33] (fun iv wr=>∃ i:Nat,i<=q/\iv = iI i/\J (fk p q i) wr/\Br b W wr) fun iv _=>q-(intOf iv).toNat
 case atStart=>exact⟨0,C3 _,rfl,HJ0.o,rfl,rfl,rfl⟩
 case round =>
  obtain⟨i,hi,rfl,Ud,M4⟩:=hrel;obtain⟨c0,c1,c2⟩:=HB.o wr M4;by_cases hlt:i<q
  .have T6:decide (i<q)=true:=by simp[hlt]
   obtain⟨fn,tmps,assign,body,hy,hR⟩:=hY _ ((pq:Int)+(i:Int)) wr Ud (by rw[Qc];exact hlt);dsimp only[MF] at hy;have HZ:=hid (show fk p q (i+1)=fk p q i++[(pq:Int)+(i:Int)] by rw[xv0,HK.2.2];simp);have Sj:=hid M4;clear M4 Ud;gi_wp2
   refine hR.mono ?_;rintro e W3 (⟨rfl,o6,Q2⟩|⟨rfl,N3⟩)
   .have rJ:=hid o6;have lY:=hid (Sj.trans Q2);clear o6 Q2;gi_wp2
    go_roundw;case rel=>exact⟨i+1,hlt,by go_num,by rw[HZ];exact rJ.o,lY.o⟩
    case measure=>exact wM
   .have fV:=hid N3;clear N3;gi_wp2
    refine bodyPost_ret (results_none rfl _ _ _) rfl ?_;exact⟨⟨_,rfl⟩,.inr ⟨_,by rw[<- HZ];exact zD0 p q hlt,fV.o⟩⟩
  .obtain rfl:i=q:=by omega
   have T6:decide (i<i)=false:=by simp
   gi_wp2
   go_end0
   exact⟨⟨_,rfl⟩,.inl ⟨_,rfl,Ud⟩⟩
def AV0 (B n0:Nat)(pre:List Int)(W:w9):Prop:=
 ∃ v,Boxed W B 52 v/\W.ownsRow n0 3 1 v pre.length (pre.map fun x=>iI x)/\True
def tO0 (h:w.ownsRow b e size v n xs)(hv:v.ownBlock=some g):b<=g/\g<w:=by
 obtain⟨_,⟨h0,_⟩|⟨g',cap',cur',h1,hb,I1,_⟩⟩:=h
 .rw[h0] at hv;cases hv
 .rw[h1] at hv;have e':g'=g:=Option.some.inj hv;subst e';exact⟨hb,M0 I1⟩
def tM0 {n0 B:Nat}{u:Value}(h:w.ownsRow n0 3 1 v n xs)(hb:Boxed w B 52 u)(z:Value):(w.setCell B z).ownsRow n0 3 1 v n xs:=
 h.kept (grownBy_setCell' w B z) (.inr (hb.not_row dC h).symm)
def WC {b':Nat}(h:w.ownsRow b e size v n xs)(hb:b'<=b):w.ownsRow b' e size v n xs:=by
 obtain⟨hl,h0|⟨g,cap,cur,hv,hg,r⟩⟩:=h
 .exact⟨hl,.inl h0⟩
 .exact⟨hl,.inr ⟨g,cap,cur,hv,nT hb hg,r⟩⟩
def DF0 (l:List Int)(w:w9)(e:Ending)(w':w9):Prop:=∃ va vc,e = rT (sL va l.length vc)/\w'.ownsRow w 3 1 (sL va l.length vc) l.length (l.map (Value.int .i64))/\Fq w w'
def ml0 (hd:d<=g)(hg:g<=20)(hp:p<2^d)(w:w9) :
  cP 213 #[iI p,iI d,iI g] w (DF0 (fk p (2^(g-d)) (2^(g-d))) w):=by
 obtain⟨i0,A3,J1,M1,O1⟩:=info_parts bJ;refine (callsIn_wide (n:=10)).1 ?_;have F:=hid (qC0 p d g (w.alloc (.cells #[sL none 0 0] 52)));have B5:2^(g-d)<=1048576:=nT (aZ dC (by omega:g-d<=20)) dC;refine callsIn_of_wp_marks func213 rfl trivial ?_ rfl;simp only[ntmps213,zA,lC,cJ,Nat.reduceAdd,Nat.reduceSub,dV,dW,dZ,dX,C7,ak];gi_wp2_with (gi_at_call 266;refine (callsIn_wide.2 F.o).mono ?_;rintro e w' ⟨rfl,rfl⟩)
 obtain⟨W0,B4⟩:=eX ((((w.alloc (.cells #[sL none 0 0] 52)).alloc (.cells #[iI p] 3)).alloc (.cells #[iI d] 3)).alloc (.cells #[iI g] 3))
 have bu:Fq w W0:=by rw[<- B4];exact ((((Fr.refl _ w).alloc _).alloc _).alloc _).alloc _
 have hsz:W0.heap.size=w.heap.size+1+1+1+1:=by rw[<- B4];simp
 obtain⟨q0,q1,q2,qV⟩:=nC B4;have ay:W0.heap[w.heap.size]?=some (.cells #[sL none 0 0] 52):=qV.heap (han _ _) id;have e1:(w.alloc (.cells #[sL none 0 0] 52)).heap.size=w.heap.size+1:=by simp
 rw[e1] at q0 q1 q2;simp only[B4];have mU:w.heap.size+1+2=w.heap.size+1+1+1:=oM
 refine wpIn_rangeFunc_ownG (F:=Fence.wide) rfl oM (gf:=284) (lb:=#[pO (aP (w+1+1) 0),pO (aP (w+1+1+1) 0),pO (aP (w+1) 0)]) rfl trivial (enters_of func284 kF rfl)
  (kO0 (b:=w.heap.size+1) q0 q1 (by rw[mU];exact q2) hd hg hp) (fun h k=>h.trans k) (fun W l o o' hl _ _ _=>⟨aC _ _ _ _ oM,aC _ _ _ _ oM,aC _ _ _ _ oM⟩) (Below.refl _ _) (fun _=>rfl)
  (fun pre W=>AV0 w.heap.size W0.heap.size pre W/\Fr (fun b=>b=w.heap.size) W0 W)
  (fun _ _ _=>False)
  (U6 ((holdsRow_own W0.heap.size w.heap.size 52 3 1 (fun pre:List Int=>pre.length) (fun pre=>pre.map fun x=>iI x) fun _ _=>True).from _) (oY (nR _)))
  (fun _ _ _ _ _ h=>h.elim)
  ⟨⟨_,ay,World.ownsRow_nil _ _ _ _,trivial⟩,fR⟩
  (fun x=>{ tmps:=#[iI p,iI d,iI g,undef,undef,undef,sL none 0 0,pO w,iI x,iI p,iI d,iI g,.func (.func 284) #[] #[pO (aP (w+1+1) 0),pO (aP (w+1+1+1) 0),pO (aP (w+1) 0)],iI x,undef,undef,undef,undef,undef],defers:=[] }) ?assign ?body ?done ?stop
 case assign =>
  intro l x W K hK;gi_wp2
  exact hK
 case body =>
  rintro l pre x W ⟨⟨v,hv,A0,-⟩,hF⟩ hlen;have e0:=hv.cell;have e1:=hv.frozen;have l1:=hv.lt;have Js:=hF.size;have kG:w<=(W:Nat):=nT bu.size Js;have wD:=hid hsz;have yG:=hid hF;have HV:=hid hv;have HO:=hid A0;have hlen9:pre.length<=1048576:=nT (FU hlen) B5;clear hv A0 ay q0 q1 q2 qV hlen B5 hp hsz hF bu mU;gi_wp2_with (gi_at_builtin;refine wpListIn_append_own _ rfl (.tmp 14) (.tmp 16) 52 rfl W0.heap.size 3 i0 _ 1 8 underlying52 A3 J1 M1 O1 rfl dC _ _ _ rfl (HO.alloc _) ⟨W,0,none⟩ 1 1 [iI x] rfl rfl (cell_one_new _ _ _) (by simp[Value.oneCell']) ?c3 ?c4 ?c5 ?_)
  case c3=>simp[maxLen];omega
  case c4=>omega
  case c5=>exact nT Js sP
  intro v1 w2 N0 R0 Y4;obtain⟨g',cap,rfl⟩:=ownsRow_succ N0;obtain⟨d1,d2,-,d4,d5⟩:=HV.appended dC (WC HO (by have:=wD.o;omega:w<=(W0:Nat))) kG (nR _) (WC N0 (by have:=wD.o;omega)) R0;have d3:=tM0 N0 d1 (sL g' (pre.length+1) cap);have hk:∀ j,w.heap.size<j->j<W0.heap.size->(w2.setCell w (sL g' (pre.length+1) cap)).heap[j]?=W.heap[j]?:=fun j h1 h2=>by
   rw[fY _ _ _ _ (by show w.heap.size≠j;omega),R0.block j sO (fun e=>by
    have:=(tO0 HO e.symm).1;omega),fE _ _ _ oM]
  have Si:=hid hk;have fT:=hid (show Fr (fun b=>w<=b/\(b=w.heap.size\/W0.heap.size<=b)) W (w2.setCell w (sL g' (pre.length+1) cap)) from⟨d5.os,d5.tape,d5.output,d5.size,fun b hb hn=>by
   rcases jL b w.heap.size with h|h
   .exact d5.block b h
   .exact hk b (by
     rcases jL w.heap.size b with h2|h2
     .exact h2
     .exact absurd ⟨h,.inl oM⟩ hn) (by
     rcases jL b W0.heap.size with h2|h2
     .exact h2
     .exact absurd ⟨h,.inr h2⟩ hn)⟩)
  have f0:=d1.cell;have f1:=d1.frozen;have D2:=hid d2;have D3:=hid d3;clear N0 R0 Y4 d1 d2 d3 hk;gi_wp2
  refine⟨d4.from _,⟨Si _ oM (by have:=wD.o;omega),Si _ oM (by have:=wD.o;omega),Si _ oM (by have:=wD.o;omega)⟩,⟨_,D2.o,by simpa using D3.o,trivial⟩,?_⟩;exact yG.trans (S':=fun b=>w<=b/\(b=w.heap.size\/W0.heap.size<=b)) fT (fun b hb h=>by rcases h.2 with h|h <;> omega)
 case done =>
  rintro D ys W hD rfl ⟨⟨v,hv,A0,-⟩,hF⟩ hK;obtain⟨va,vc,rfl,-,-,-,-⟩:=A2 A0;have e0:=hv.cell;have HO:=hid A0;clear A0 hv ay q0 q1 q2 qV;gi_wp2
  have hI:=WC (ownsRow_putObj HO (.deferred none) hK rfl) (by omega:w<=(W0:Nat));refine wR (t:=6) rfl hK ⟨va,vc,rfl,hI,(bu.trans hF fun b hb h=>oM).putObj (fun hh=>oM) _⟩
 case stop=>exact fun _ _ _ _ _ _ h=>h.elim
end
section
open Go.RowKit Go.Sg Go.Sg.Bits Go.Sg.r4 CP SF
variable {B:P0}{w:w9}{N bd bx d p:Nat}{a:Bool}{sp:Int}
def yX {X:Nat->Prop}{w':w9}(F:O0 B X w w'){b:Nat}{c:Array Value}{t:TypeId}{f:Nat × Nat}(hb:w.heap[b]?=some (.cells c t f))(ht:t ∉ aR)(hX:¬ X b):w'.heap[b]?=some (.cells c t f):=
 Fr.heap F hb fun hs=>by
  rcases hs with hs|hs
  .exact ht (hs.2.1 c t f hb)
  .exact hX hs
variable {r:Rf}
def mU0 {l:List Rf}{S:List Nat}(h:∀ i ∈ S,l[i]?=some r):R4 l S r=l:=by
 refine EO fun i=>?_
 rw[oW];split
 .rename_i hi;rw[h i hi];rfl
 .rfl
def BJ0 {g:Nat}(hd:d<=g)(hp:p<2^d):p*2^(g-d)+2^(g-d)<=2^g:=by
 have h1:2^g=2^d*2^(g-d):=by rw[<- Aq];congr 1;omega
 rw[h1,<- nb];exact Nat.mul_le_mul_right _ hp
def zE0 (p q m:Nat):(fk p q m).map Int.toNat=fS (p*q) m:=by
 simp only[fk,fS,xY];refine Qj fun i _=>?_
 simp only[Function.comp_apply,jK]
variable {y:Cs}{x:P1}{slots E0:List Rf}{L:List Bp}
def Y1.qS {P:J2}(h:Y1 w B bx bd y P a N x E0 slots L sp):bd<w/\bx<w/\bx≠bd:=by
 refine⟨M0 h.dir,M0 h.idx,fun e=>?_⟩;have h1:=h.dir;have h2:=h.idx;unfold N2 at h1;unfold dG at h2;rw[e,h1] at h2;cases h2
def Ok {P:D4}(h:Y1 w B bx bd y P a N x E0 slots L sp)(vo:Option Addr)(vn vc0:Nat)(hd:d<=x.depth)(hp:p<2^d)(hr:bh r)(hN:N+19<=90000) :
  cP 197 #[O7 bx,E9 d p (sL vo vn vc0),cV r.1 r.2] w (MN B bx bd y P a (N+19) x.depth (R4 slots (fS (p*2^(x.depth-d)) (2^(x.depth-d))) r) L sp w):=by
 obtain⟨w1,I0⟩:=eX ((w.alloc (.cells #[iI d,iI p,sL vo vn vc0] 129)).alloc (.cells #[iI r.1,iI r.2] 35))
 obtain⟨b4,b5,F1⟩:=n9 I0;obtain⟨iR,U3,hne⟩:=h.qS;have hs:=h.small;have hB:=hid fun (V:w9) (F:O0 B (fun b=>b=bd) w1 V)=>aI (cells3 (yX F b4 dC oM)) (aI (cells2 (yX F b5 dC oM)) (cells5 (yX F (F1.heap h.idx id) dC hne)));have HB:=hB;obtain⟨g,hg⟩:=eX x.depth
 have iA:=hid fun V (F:Fq w1 V)=>In (F.heap (F1.heap h.dir id) id:N2 V bd B.s x);rw[hg] at hd hs iA ⊢;have kS:=hid fun V=>ml0 (p:=p) (d:=d) (g:=g) hd oM hp V;have X3:=BJ0 hd hp;have hsx:x.slots=2^g:=by unfold P1.slots;rw[hg]
 obtain⟨q,hq⟩:=eX (2^(g-d))
 rw[hq] at kS X3 ⊢;have hq8:q<=8:=by have:=hs.2.1;omega
 have ml:=hid (fun V (F:Fq w1 V) (a4:Option Addr) (c4:Nat) (ho:V.ownsRow w1 3 1 (.slice a4 (fk p q q).length c4) (fk p q q).length ((fk p q q).map (Value.int .i64)))=>by
  have:=(h.J0 (F1.trans F nI)).set (sa:=a4) (n:=(fk p q q).length) (c:=c4) (l:=fk p q q) (r:=r) (jF0 ho rfl) (fun W' G=>jF0 (BL ho dC G) rfl) (by rw[Qc];exact hq8) (by
   rw[DJ];intro z hz;obtain⟨i,hi,rfl⟩:=N4.1 hz;have:=List.mem_range.1 hi;simp[gD];omega) hr hN
  rw[zE0,hg] at this;exact this)
 have Nm:=hid (Qc p q q);have E1:=hid F1;have FG:Fq w1 w1.drew:=fR.drew;have HW:=hid I0;have Fe:(d:Int)=d:=rfl;clear I0 b4 b5 F1 h hB hr X3 hsx hg hq;go_enter func197,ntmps197;go_upto_region 1 with fail
 rw[HW];refine wp_region_noPanic ?_;refine q8 (fun V=>O0 B (fun b=>b=bd) w1 V) (.rd 0 (.rd 1 (.rd 2 (.rd 3 (.rd 4 (.rd 5 (.rd 6 (.rd 7 (.rd 8 (.rd 9 (.rd 10 (.rd 11 (.rd 14 (.op 12 (.op 13 (.op 15 (.rd 16 .done))))))))))))))))) kF kF kF (fun _ _ _ _ _ h=>h) (O0.none FG) ?_;iterate 13
  refine oP ?_ ?_ ?_;rotate_left
  .intro V hV;obtain⟨⟨x0,x1,x2,xz,xl⟩,⟨t0,t1,tz,tl⟩,⟨i0,i1,i2,i3,i4,iz,il⟩⟩:=HB.o V hV;go_simp;try with_reducible rfl
 refine rQ fun K hK=>?_;refine (iA _ FG).mono ?_;rintro _ _ ⟨rfl,rfl⟩;try go_simp
 refine hK _ _ (O0.none FG) ?_;clear hK K;refine rQ fun K hK=>?_;refine (kS _).mono ?_;rintro _ V2 ⟨va,vc,rfl,A0,F2⟩;have qv:=FG.trans F2 nI;have Hg:=hid (ml.o V2 qv va vc A0);have Y0:=hid qv;rw[Nm];try go_simp
 refine hK _ _ (O0.none qv) ?_;clear hK K A0 F2 qv;refine rQ fun K hK=>?_;rw[Nm] at Hg;refine Hg.mono ?_;rintro _ V3 ⟨err,rfl,F3,hr⟩;have cL:O0 B (fun b=>b=bd) w1 V3:=O0.trans (O0.none Y0.o) F3;have H3:=hi2 cL hr;try go_simp
 refine hK _ _ cL ?_;clear hK K F3 hr cL;refine oR ?_
 try simp only[Act.put,sI,sZ,sS]
 refine o5 ?_;refine NoPanic.normal ?_;go_wp2_with fail
 go_ret;refine⟨err,rfl,O0.trans (O0.none E1.o) H3.1,H3.2⟩
end
section
open Go.RowKit Go.Sg CP SF
variable {w:w9}{k r:Nat}{bs:List Int}
def zP0 (h:cA w r bs false):cP 218 #[pO r] w (Af false w):=by
 obtain⟨⟨a,c,hr,-⟩,-⟩:=h;have c1:w.cell? (aA r 1)=some (bO false):=by simpa using G0 hr 1
 clear hr;go_enter func218,ntmps218;go_wp2_with fail
 go_ret;exact⟨rfl,rfl⟩
def YM (n:Nat)(w:w9)(e:Ending)(w':w9):Prop:=∃ a c,e = rT (sL a n c)/\Fq w w'
def wE0 (h:cA w r bs false):cP 275 #[pO r] w (YM bs.length w):=by
 obtain⟨⟨a,c,hr,hb,-⟩,hs⟩:=h;obtain⟨n,hn⟩:=eX bs.length
 rw[hn] at hr hb hs ⊢;have c0:w.cell? r=some (sL a n c):=by simpa using G0 hr 0
 have HC:=hid (BF hb.slb hs);clear hr hb hn;go_enter func275,ntmps275;go_wp2_with fail
 refine HC.mono ?_;rintro e w2 ⟨a',c',rfl,-,F2⟩;have HF:=hid F2;clear F2;go_wp2_with fail
 go_ret;exact⟨_,_,rfl,HF.o⟩
variable {es:List Bt}
def sQ0 {x:Bt}(h:es[k]?=some x):(es.drop k).flatMap jl=Sg.leB x.hash 8++(Sg.leB x.rg.toNat 8++(Sg.leB x.at_.toNat 2++(Sg.leB x.sz.toNat 2++(es.drop (k+1)).flatMap jl))):=by
 have hk:=(gI.1 h).1;have e:es[k]=x:=(gI.1 h).2;rw[FT hk,e];simp[jl]
def lI0 (es:List Bt):∀ z ∈ es.flatMap jl,0<=z/\z<256:=fun z hz=>by
 obtain⟨x,_,h⟩:=ui.1 hz;simp only[jl,X5] at h;rcases h with ((h|h)|h)|h <;> exact Sg.kV _ _ z h
def Id (d p:Nat)(es:List Bt):∀ z ∈ Z6 d p es,0<=z/\z<256:=fun z hz=>by
 simp only[Z6,X5] at hz;rcases hz with ((h|h)|h)|h
 .exact Sg.kV _ _ z h
 .exact Sg.kV _ _ z h
 .exact Sg.kV _ _ z h
 .exact lI0 es z h
def wL {bs t:List Int}{n k:Nat}(h:∀ z ∈ Sg.leB n k++t,0<=z/\z<256):∀ z ∈ t,0<=z/\z<256:=fun z hz=>h z (lK _ hz)
def Ez0 (r v:Nat)(rest:List Int)(w:w9)(e:Ending)(w':w9):Prop:=e = rT (iU v)/\cA w' r rest false/\Fr (fun b=>b=r) w w'
def DQ {v:Nat}{rest:List Int}(h:cA w r (Sg.leB v k++rest) false)(hr:∀ x ∈ rest,0<=x/\x<256)(kz:Int)(Ke:kz=k)(hk:k=1\/k=2\/k=4\/k=8)(hv:v<256^k) :
  cP 216 #[pO r,iI kz] w (Ez0 r v rest w):=by
 refine (YJ h (fun x hx=>?_) k kz Ke hk (by rw[lA,e8];omega)).mono ?_
 .rcases X5.1 hx with hx|hx
  .exact Sg.kV _ _ x hx
  .exact hr x hx
 .rintro e w' ⟨rfl,h2,F⟩;rw[Xo,PU k v hv];rw[Xb] at h2;exact⟨rfl,h2,F⟩
def Ew0 (d p:Nat)(es:List Bt)(w:w9)(e:Ending)(w':w9):Prop:=
 ∃ a c,e = rT (tU #[E9 d p (sL a es.length c),iI 0])/\Y3 w' w.heap.size (sL a es.length c) es/\Fq w w'
def QZ (w1:w9)(b4 b7 r:Nat)(d p:Nat)(es:List Bt)(k:Nat)(W:w9):Prop:=
 cA W r ((es.drop k).flatMap jl) false/\(∃ v,W.heap[b7]?=some (.cells #[iI d,iI p,v] 129)/\Y3 W w1.heap.size v (es.take k))/\Fq w1 W
def uK0 {a:Option Addr}{c n d p:Nat}(h:T0 w a n c (Z6 d p es))(hn:n=10+20*es.length)(hl:es.length<=24)(hg:∀ x ∈ es,tZ x)(sl:Nat)(hd:d<=20)(hp:p<1048576)
  (hR:∀ W v,Y3 W 0 v es->cP 190 #[E9 d p v,iI sl] W (bt (bO true) W)) :
  cP 246 #[sL a n c,iI sl] w (Ew0 d p es w):=by
 obtain⟨i0,A3,J1,M1,O1⟩:=info_parts eP;obtain⟨m,hm⟩:=eX es.length
 have hm24:m<=24:=oM
 obtain⟨w1,I0⟩:=eX (w.alloc (.cells #[iI 0,iI 0,sL none 0 0] 129))
 have b4:=fB I0
 have F1:=fA I0
 have E3:w1.heap.size=w.heap.size+1:=by rw[<- I0];simp
 have wm:=hid (show cP 215 #[sL a n c] w1 (xY0 (Z6 d p es) w1) from Tn (h.fr F1 fun _ _ _ h=>h).slb oM);have HM:=hid hm;have HG:=hid hg;have uL:=hid hR;have H4:=hi2 b4 (aI F1 E3);have HW:=hid I0;clear h hn hl hg hR I0 b4 F1 E3 hm;go_enter func246,ntmps246;go_upto_region 1 with fail
 rw[HW];go_wp2_with fail
 refine wm.mono ?_;rintro e w2 ⟨r,rfl,eV,jE,F2⟩;have Ck:=eV;have TA:Z6 d p es=Sg.leB d 1++(Sg.leB es.length 1++(Sg.leB p 8++es.flatMap jl)):=by simp[Z6]
 rw[TA] at Ck;have O2:=Id d p es;rw[TA] at O2
 have aJ:=hid (DQ Ck (wL (bs:=[]) O2) 1 sP sP oM);have pI:=wL (bs:=[]) O2
 have Dr:=M0 eV.ex.choose_spec.choose_spec.1;have H2:=hi2 F2 (aI jE pI);clear eV Ck F2 O2 TA pI wm;go_wp2_with fail
 refine aJ.mono ?_;rintro e w3 ⟨rfl,qX,F3⟩;have hcd:IntKind.i64.wrap (d:Int)=(d:Int):=by rw[IntKind.wrap_i64];omega
 have Fw:=F3.size;have J7:Fq w1 w3:=H2.1.trans F3 (fun b hb e=>by have:=H2.2.1;omega);have H3:=hi2 qX J7;have pU:r<w3:=oM
 clear qX F3 J7 aJ;go_upto_region 3 with fail
 obtain⟨w4,eE⟩:=eX (w3.alloc (.cells #[iI d,iI 0,sL none 0 0] 129))
 rw[eE];have b7:=fB eE
 have F4:=fA eE
 have qE:=hid (DQ (H3.1.fr F4 id fun _ _ _ h=>h) (wL (bs:=[]) H2.2.2) 1 sP sP (by rw[HM];omega));have H5:=hi2 b7 (H3.2.trans F4 nI);clear eE b7 F4;go_wp2_with fail
 refine qE.mono ?_;rintro e w5 ⟨rfl,Je,F5⟩;have hcm:IntKind.i64.wrap (m:Int)=(m:Int):=by rw[IntKind.wrap_i64];omega
 have uK:=hid (DQ Je (wL (bs:=[]) (wL (bs:=[]) H2.2.2)) 8 sP sP oM);have b75:=F5.heap H5.1 fun e=>oM;have H6:=hi2 b75 (H5.2.trans F5 fun b hb e=>by have:=H2.2.1;omega);rw[HM];clear Je F5 b75 qE;go_wp2_with fail
 refine uK.mono ?_;rintro e w6 ⟨rfl,Jf,F6⟩;have mN:IntKind.i64.wrap (p:Int)=(p:Int):=by rw[IntKind.wrap_i64];omega
 have Tf:=F6.heap H6.1 fun e=>oM;obtain⟨x0,x1,x2,xz,xl⟩:=cells3 Tf;have H7:=hi2 Tf (aI Jf (H6.2.trans F6 fun b hb e=>by have:=H2.2.1;omega));clear Jf F6 Tf uK;go_upto_region 5 with fail
 obtain⟨w7,xO⟩:=eX (w6.setCell (aA w3 1) (iI p))
 rw[xO];have F7:Fr (fun b=>b=w3.heap.size) w6 w7:=by rw[<- xO];exact (Fr.refl (fun b=>b=w3.heap.size) _).setCell (a:=⟨w3,_,none⟩) (fun _=>rfl) _
 have b77:w7.heap[w3.heap.size]?=some (.cells #[iI d,iI p,sL none 0 0] 129):=by rw[<- xO,hsc _ _ _ _ H7.1];rfl
 have E6:w1<=(w3:Nat):=H3.2.size;obtain⟨q7,VL⟩:=eX w3.heap.size
 have hI:QZ w1 w.heap.size q7 r d p es 0 w7:=by
  rw[<- VL];refine⟨?_,⟨_,b77,World.ownsRow_nil _ _ _ _⟩,H7.2.2.trans F7 fun b hb e=>oM⟩;exact H7.2.1.fr F7 (fun e=>oM) (fun b c hb e=>by rw[e,H7.1] at hb;cases hb)
 have HI:=hid hI;have Ds:w1<=r:=H2.2.1;have hrq:r<q7:=oM
 have hq71:w1<=q7:=oM
 rw[VL];clear hI b77 F7 xO x0 x1 x2 xz xl E6 VL pU Fw Dr;go_wp2_with fail
 go_loopw [24] (fun iv wr=>∃ k:Nat,k<=m/\iv = iI k/\QZ w1 w.heap.size q7 r d p es k wr) fun iv _=>m-(intOf iv).toNat
 case atStart=>exact⟨0,C3 _,rfl,HI.o⟩
 case round =>
  obtain⟨k,hk,rfl,hI⟩:=hrel;obtain⟨sG,⟨v,E6,A0⟩,hF⟩:=hI;obtain⟨va,vc,rfl,-,-,-,-⟩:=A2 A0;have r9:(es.take k).length=k:=by rw[lT,HM];omega
  replace A0:wr.ownsRow w1 118 4 (.slice va (es.take k).length vc) (es.take k).length ((es.take k).flatMap Q1):=A0
  rw[r9] at A0 E6;by_cases hlt:k<m
  .have T6:decide (k<m)=true:=by simp[hlt]
   obtain⟨x,hx⟩:∃ x,es[k]?=some x:=⟨_,gE (by rw[HM.o];exact hlt)⟩
   have hgx:=HG.o x (gM hx);obtain⟨g0,g1,g2,g3⟩:=hgx;have O2:∀ z ∈ (es.drop k).flatMap jl,0<=z/\z<256:=lI0 _
   rw[sQ0 hx] at sG O2
   obtain⟨xh,xr,xa,xs⟩:=x;simp only at g0 g1 g2 g3 sG O2
   obtain⟨xr,rfl⟩:=iZ g1.1;obtain⟨xa,rfl⟩:=iZ g2.1;obtain⟨xs,rfl⟩:=iZ g3.1;simp only[jK] at sG O2
   have C8:xr<=1099511627776/\xa<=65535/\xs<=65535:=oM
   have CE:=wL (bs:=[]) O2
   have pI:=wL (bs:=[]) CE;have CF:=wL (bs:=[]) pI;have JD:=wL (bs:=[]) CF;have aJ:=hid (DQ sG CE 8 sP sP oM);have HB:=hi2 pI (aI CF JD);have HRC:=hid (show ∃ c,wr.heap[r]?=some (.cells c 377) from⟨_,sG.ex.choose_spec.choose_spec.1⟩);have HX:=hid hx;have J6:=M0 E6;have Dr:=M0 sG.ex.choose_spec.choose_spec.1;have HL:=hi2 E6 (aI A0 hF);have Lo:IntKind.i64.wrap (xr:Int)=(xr:Int):=by rw[IntKind.wrap_i64];omega
   have Lp:IntKind.i64.wrap (xa:Int)=(xa:Int):=by rw[IntKind.wrap_i64];omega
   have PI:IntKind.i64.wrap (xs:Int)=(xs:Int):=by rw[IntKind.wrap_i64];omega
   clear hx sG O2 CE pI CF JD E6 A0 hF g1 g2 g3;go_wp2_with fail
   refine aJ.mono ?_;rintro e W2 ⟨rfl,pB,F2⟩;go_upto_region 8 with fail
   obtain⟨W3,S5⟩:=eX (W2.alloc (.cells #[iU xh,iI 0,iI 0,iI 0] 118))
   rw[S5];obtain⟨b9,R7⟩:=eX W2.heap.size
   have x9:W3.heap[b9]?=some (.cells #[iU xh,iI 0,iI 0,iI 0] 118):=by rw[<- S5,<- R7];exact han _ _
   have F3:Fr (fun b=>b=r) wr W3:=by rw[<- S5];exact F2.alloc _
   have lJ:r≠b9:=by have:=F2.size;omega
   have hq9:q7≠b9:=by have:=F2.size;omega
   have hs9:wr<=b9:=by rw[<- R7];exact F2.size
   have qE:=hid (DQ (pB.fr (show Fq W2 W3 by rw[<- S5];exact fR.alloc _) id fun _ _ _ h=>h) HB.1 8 sP sP oM);have H3:=hi2 x9 F3;rw[R7];clear pB F2 S5 x9 F3 aJ R7;go_wp2_with fail
   refine qE.mono ?_;rintro e W4 ⟨rfl,hR4,F4⟩;have x9:=F4.heap H3.1 fun e=>lJ e.symm;obtain⟨t0,t1,t2,t3,tz,tl⟩:=D8 x9;go_upto_region 9 with fail
   obtain⟨W5,iP⟩:=eX (W4.setCell (aA b9 1) (iI xr))
   rw[iP];have F5:Fr (fun b=>b=b9) W4 W5:=by rw[<- iP];exact (Fr.refl (fun b=>b=b9) _).setCell (a:=⟨b9,_,none⟩) (fun _=>rfl) _
   have x95:W5.heap[b9]?=some (.cells #[iU xh,iI xr,iI 0,iI 0] 118):=by rw[<- iP,hsc _ _ _ _ x9];rfl
   have uK:=hid (DQ (hR4.fr F5 (fun e=>lJ e) fun b c hb e=>by rw[e,x9] at hb;cases hb) HB.2.1 2 sP sP oM);have H5:=hi2 x95 ((H3.2.trans F4 nI).trans F5 (S':=fun b=>b=b9) fun b hb e=>oM);clear hR4 F4 F5 iP x9 x95 t0 t1 t2 t3 tz tl qE;go_wp2_with fail
   refine uK.mono ?_;rintro e W6 ⟨rfl,Jf,F6⟩;have x9:=F6.heap H5.1 fun e=>lJ e.symm;obtain⟨t0,t1,t2,t3,tz,tl⟩:=D8 x9;go_upto_region 10 with fail
   obtain⟨W7,mH⟩:=eX (W6.setCell (aA b9 2) (iI xa))
   rw[mH];have F7:Fr (fun b=>b=b9) W6 W7:=by rw[<- mH];exact (Fr.refl (fun b=>b=b9) _).setCell (a:=⟨b9,_,none⟩) (fun _=>rfl) _
   have x97:W7.heap[b9]?=some (.cells #[iU xh,iI xr,iI xa,iI 0] 118):=by rw[<- mH,hsc _ _ _ _ x9];rfl
   have Nn:=hid (DQ (Jf.fr F7 (fun e=>lJ e) fun b c hb e=>by rw[e,x9] at hb;cases hb) HB.2.2 2 sP sP oM);have H7:=hi2 x97 ((H5.2.trans F6 nI).trans F7 (S':=fun b=>b=b9) fun b hb e=>oM);clear Jf F6 F7 mH x9 x97 t0 t1 t2 t3 tz tl uK;go_wp2_with fail
   refine Nn.mono ?_;rintro e W8 ⟨rfl,hR8,F8⟩;have x9:=F8.heap H7.1 fun e=>lJ e.symm;obtain⟨t0,t1,t2,t3,tz,tl⟩:=D8 x9;go_upto_region 11 with fail
   obtain⟨W9,Pf⟩:=eX (W8.setCell (aA b9 3) (iI xs))
   rw[Pf];have F9:Fr (fun b=>b=b9) W8 W9:=by rw[<- Pf];exact (Fr.refl (fun b=>b=b9) _).setCell (a:=⟨b9,_,none⟩) (fun _=>rfl) _
   have x99:W9.heap[b9]?=some (.cells #[iU xh,iI xr,iI xa,iI xs] 118):=by rw[<- Pf,hsc _ _ _ _ x9];rfl
   have FA:Fr (fun b=>b=r) wr W9:=(H7.2.trans F8 nI).trans F9 (S':=fun b=>b=b9) fun b hb e=>oM;have hR9:cA W9 r ((es.drop (k+1)).flatMap jl) false:=hR8.fr F9 (fun e=>lJ e) (fun b c hb e=>by rw[e,x9] at hb;cases hb);have Ct:=FA.heap HL.1 fun e=>oM;have zU:W9.ownsRow w1 118 4 (sL va k vc) k ((es.take k).flatMap Q1):=K3 HL.2.1 FA (fun g cs hg e=>by
    obtain⟨cr,hcr⟩:=HRC.o;rw[e,hcr] at hg;cases hg)
   have Rl:Fq w1 W9:=HL.2.2.trans FA fun b hb e=>oM;obtain⟨y0,y1,y2,yz,yl⟩:=cells3 Ct;obtain⟨t0',t1',t2',bB,bC,tl'⟩:=D8 x99;have H9:=hi2 zU (aI hR9 (aI Rl Ct));have hlen:0+k+1<=25:=oM
   have hsz9:w1<=(W9:Nat):=Rl.size;clear hR8 F8 F9 Pf x9 x99 FA hR9 Ct zU Rl t0 t1 t2 t3 tz tl Nn;go_wp2_with (at_builtin;refine wpList_append_own_at _ rfl (.tmp 45) (.tmp 47) 127 rfl w1.heap.size 118 i0 _ 4 32 underlying127 A3 J1 M1 O1 rfl dC _ _ _ rfl (H9.1.alloc _) ⟨W9,0,none⟩ 1 1 [iU xh,iI xr,iI xa,iI xs] rfl rfl (World.news_of_block (cs:=#[iU xh,iI xr,iI xa,iI xs]) (t:=118) (fr:=(0,0)) (han _ _)) (by simp[Value.oneCell']) (by simp[maxLen];omega) oM sO ?_)
   intro v2 W2 N0 Q0 U7 cW;have hF2:Fr (fun b=>some b=(sL va k vc).ownBlock) W9 W2:=(fR.alloc _).trans (S':=fun b=>some b=(sL va k vc).ownBlock) ⟨Q0.os,Q0.tape,Q0.output,Q0.size,fun b hb hn=>Q0.block b hb hn⟩ fun b hb h=>h;have pB:cA W2 r ((es.drop (k+1)).flatMap jl) false:=H9.2.1.fr hF2 (fun e=>by
    obtain⟨_,c,hc⟩:=O6 H9.1 e;obtain⟨a,c',h1,_⟩:=H9.2.1.ex;rw[hc] at h1;cases h1) (fun b c hb e=>by
    obtain⟨_,c',hc⟩:=O6 H9.1 e;rw[hc] at hb;cases hb)
   have sV:=hF2.heap H9.2.2.2 (fun e=>by
    obtain⟨_,c',hc⟩:=O6 H9.1 e;rw[H9.2.2.2] at hc;cases hc)
   obtain⟨vN,vO,rfl,-,-,-,-⟩:=A2 N0;have iw:Fq w1 W2:=H9.2.2.1.trans hF2 (fun b hb e=>by have:=(O6 H9.1 e).1;omega);have FS:Fr (fun b=>b=q7) W2 (W2.setCell (aA q7 2) (sL vN (k+1) vO)):=(Fr.refl (fun b=>b=q7) _).setCell (a:=⟨q7,_,none⟩) (fun _=>rfl) _;have SB:=hid (show QZ w1 w.heap.size q7 r d p es (k+1) (W2.setCell (aA q7 2) (sL vN (k+1) vO)) from⟨pB.fr FS (fun e=>oM) (fun b c hb e=>by rw[e,sV] at hb;cases hb),⟨sL vN (k+1) vO,by rw[hsc _ _ _ _ sV];rfl,by
    have e1:es.take (k+1)=es.take k++[⟨xh,xr,xa,xs⟩]:=(by rw[ea,HX];rfl);have e2:(es.take (k+1)).flatMap Q1=(es.take k).flatMap Q1++[iU xh,iI xr,iI xa,iI xs]:=(by rw[e1,dY];simp[Q1]);have e3:(es.take (k+1)).length=k+1:=(by rw[lT,HM];omega);show (W2.setCell _ _).ownsRow _ 118 4 _ (es.take (k+1)).length ((es.take (k+1)).flatMap Q1);rw[e2,e3];exact K3 N0 FS fun g cs hg e=>by rw[e,sV] at hg;cases hg⟩,iw.trans FS fun b hb e=>oM⟩)
   obtain⟨y0',y1',y2',yz',yl'⟩:=cells3 sV;clear N0 Q0 U7 cW hF2 pB sV iw FS y0 y1 y2 yz yl t0' t1' t2' bB bC tl';go_wp2_with fail
   go_roundw;case rel=>exact⟨k+1,hlt,by go_num,SB.o⟩
   case measure=>exact wM
  .obtain rfl:k=m:=by omega
   have T6:decide (k<k)=false:=by simp
   have e0:es.drop k=[]:=Qg (by rw[HM];exact nR _);have e1:es.take k=es:=tL (by rw[HM];exact nR _);rw[e0] at sG;rw[e1] at A0;have RD:=hid (zP0 sG);have Hc:=hid (show cP 275 #[pO r] wr (YM 0 wr) from wE0 sG);have HL:=hi2 E6 (aI (show Y3 wr w1.heap.size (sL va k vc) es from by
    show wr.ownsRow w1 118 4 (sL va k vc) es.length (es.flatMap Q1);rw[HM];exact A0) hF)
   have qA:=hid fun W (F:Fq wr W)=>cells3 (F.heap E6 id);clear sG E6 A0 hF e0 e1 r9;go_wp2_with fail
   refine RD.mono ?_;rintro e _ ⟨rfl,rfl⟩;go_wp2_with fail
   refine Hc.mono ?_;rintro e W2 ⟨ra,rc,rfl,F2⟩;obtain⟨y0,y1,y2,yz,yl⟩:=qA.o _ F2;have Nr:=hid (uL.o W2 (sL va k vc) (own_base (oN HL.2.1 F2)));have Y0:=hid F2;clear F2;go_wp2_with fail
   refine Nr.mono ?_;rintro e W3 ⟨rfl,F3⟩;have FF:=Y0.trans F3 nI;have N5:=hid FF;clear y0 y1 y2 yz yl F3;obtain⟨y0,y1,y2,yz,yl⟩:=qA.o _ FF;obtain⟨z0,z1,z2,zz,zl⟩:=cells3 (FF.heap (HL.2.2.heap H4.1 id) id);clear FF;go_wp2_with fail
   have FS:∀ (W:w9) (o:Nat) (u:Value),Fr (fun b=>b=w.heap.size) W (W.setCell (aA w o) u):=fun W o u=>(Fr.refl (fun b=>b=w.heap.size) _).setCell (a:=⟨w,o,none⟩) (fun _=>rfl) u
   refine bodyPost_ret (v:=tU #[E9 d p (sL va k vc),iI 0]) sR rfl ⟨va,vc,by rw[HM],?_,?_⟩
   .rw[HM];have ho:=oN HL.2.1 N5.o;have hs:=H4.2.2;have PB:W3.ownsRow w1 118 4 (sL va k vc) es.length (es.flatMap Q1):=ho;exact bi (ao PB (by omega:w<=(w1:Nat))) (((FS _ _ _).trans (FS _ _ _) nI).trans (FS _ _ _) nI) (fun g hg e=>by
     have:=(bK ho hg).1;omega)
   .exact ((((H4.2.1.trans HL.2.2 nI).trans N5 nI).U2 oM _).U2 oM _).U2 oM _
