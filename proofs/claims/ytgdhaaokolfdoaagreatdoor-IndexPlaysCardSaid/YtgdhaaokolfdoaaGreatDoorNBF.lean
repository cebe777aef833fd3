/- A pack of texts. Conditions: those that each names. -/
import Derived.Test.YtgdhaaokolfdoaaGreatDoorNBE
set_option maxHeartbeats 16000000
set_option maxRecDepth 100000
set_option linter.all false
namespace Go.Proofs.YtgdhaaokolfdoaaGreatDoor
section
open Go.RowKit Go.Sg Go.Sg.Bits Go.Sg.Clk CP SF
theorem eD0:∀ t:Tr,(bare t).refs.length=t.refs.length
 | .leaf _ _=>rfl
 | .node l r=>by simp only[bare,Tr.refs,lA,eD0 l,eD0 r]
def tq0 (t:Tr)(g h:Nat):List Bt:=((bare t).at_ g (aY0 h g) 0 0).2.2.2
def zJ0 (B:Blk)(bx bd:Nat)(y:Cs)(P:aC0)(a:Bool)(N:Nat)(x:aL0)(t:Tr)(sp:Int)(h:Nat)(w:World)(e:Ending)(w':World):Prop:=
 ∃ (c0 c1 c2:Int) (ok:Bool) (err:Int),e = .returned (.tuple #[.agg #[.int .i64 c0,.int .i64 c1,.int .i64 c2],.bool ok,.int .i64 err])/\FrB B w w' /\
  ((err=0/\ok=hasB (tq0 t x.depth h) h/\.agg #[.int .i64 c0,.int .i64 c1,.int .i64 c2]=to0 (atB (tq0 t x.depth h) h)/\fk0 w' B bx bd y P a N x t sp)\/(err=4/\a=true/\aP0 w' B y P N))
variable {bx g h k:Nat}{t:Tr}
theorem fk0.find {w:World}{B:Blk}{bd:Nat}{y:Cs}{P:aC0}{a:Bool}{N:Nat}{x:aL0}{sp:Int}(h:fk0 w B bx bd y P a N x t sp){hash:Nat}(hh:hash<18446744073709551616)(hN:N+3<=90000) :
  Calls Tryz.prog 66 #[cG0 bx,.int .u64 hash] w (zJ0 B bx bd y P a (N+3) x t sp hash w):=by
 obtain⟨au0,L,hM,hP⟩:=h.ex;have hd:=h.depth;have hkl:aY0 hash x.depth<2^x.depth:=ii0 oM hh;obtain⟨d,p,r,es,hb⟩:=nf0 hkl (ll9 h.high) h.ok hP;have hes:tq0 t x.depth hash=es:=by unfold tq0;rw[gS0,hb.at_]
 refine (vl0 hM hh hb.slot hb.mem hb.ok (by have:=hb.dg;omega) hb.pl hN).mono ?_;rintro e w' ⟨c0,c1,c2,ok,err,he,F,⟨h0,h1,h2,h3⟩|hr⟩
 ·exact⟨c0,c1,c2,ok,err,he,F,.inl ⟨h0,by rw[hes];exact h1,by rw[hes];exact h2,⟨⟨au0,L,h3,hP⟩,h.high,h.ok⟩⟩⟩
 ·exact⟨c0,c1,c2,ok,err,he,F,.inr hr⟩
def awE (k:Nat):Bt:=⟨(k % 2)*9223372036854775808+k,0,0,0⟩
def awR:Nat->ea0
 | 0=>⟨.leaf (0,0) [],0,0,false⟩
 | k+1=>gj0 8 (awR k).t (awR k).g (awR k).sp (awE k) 0
theorem aw1:awR 1=⟨.leaf (0,0) [awE 0],0,0,false⟩:=by kernel_rfl
theorem aw2:awR 2=⟨.leaf (0,0) [awE 0,awE 1],0,0,false⟩:=by kernel_rfl
theorem aw3:awR 3=⟨.leaf (0,0) [awE 0,awE 2,awE 1],0,0,false⟩:=by kernel_rfl
theorem aw4:awR 4=⟨.node (.leaf (0,0) [awE 0,awE 2]) (.leaf (0,0) [awE 1,awE 3]),1,1,false⟩:=by kernel_rfl
theorem qG0 (a b c d e f:Int)(w:World):(binOp .eql 116 (.agg #[.int .i64 a,.int .i64 b,.int .i64 c]) (.agg #[.int .i64 d,.int .i64 e,.int .i64 f])).run Tryz.prog w = .ok (.bool (decide (a=d) && (decide (b=e) && decide (c=f)))) w:=by
 have h:Tryz.prog.underlying 116=_:=Tryz.underlying116;go_simp;by_cases h1:a=d <;> by_cases h2:b=e <;> by_cases h3:c=f <;> simp[h1,h2,h3]
theorem Bg0:((awE 0).hash:Int)=0:=by simp[awE]
theorem Bf0:((awE 1).hash:Int)=9223372036854775809:=by simp[awE]
theorem Be0:((awE 2).hash:Int)=2:=by simp[awE]
theorem Bd0:((awE 3).hash:Int)=9223372036854775811:=by simp[awE]
def AwI (w0:World)(base:Nat)(bx:Nat)(k:Nat)(V:World):Prop:=
 ∃ (B:Blk) (bd:Nat) (y:Cs) (x:aL0) (t:Tr) (N:Nat),fk0 V B bx bd y noP false N x t (awR k).sp/\N<=3+1230*k/\(bare t=(awR k).t/\x.depth=(awR k).g)/\B.base=base/\Fq w0 V/\(base=w0.heap.size/\base<=bx/\base<=bd)
theorem nh0 {w0 V:World}{base:Nat}(h:AwI w0 base bx k V)(hk:k<4):Calls Tryz.prog 64 #[cG0 bx,.agg #[.int .u64 (awE k).hash,.int .i64 0,.int .i64 0,.int .i64 0],.int .i64 0] V (fun e w'=>e = .returned (.tuple #[.bool false,.int .i64 0])/\AwI w0 base bx (k+1) w'):=by
 obtain⟨B,bd,y,x,t,N,hT,hN,⟨hb,hg⟩,hB,hF,hbs⟩:=h;have hE:gA0 (awE k):=by
  refine⟨?_,by simp[awE],by simp[awE],by simp[awE]⟩;simp only[awE];have:=mD9 k (show 0<2 by decide);omega
 have hsp:0<=(awR k).sp/\(awR k).sp+8<=100000:=by
  rcases (by omega:k=0\/k=1\/k=2\/k=3) with rfl|rfl|rfl|rfl
  ·decide
  ·rw[aw1];decide
  ·rw[aw2];decide
  ·rw[aw3];decide
 have hR:gj0 8 (bare t) x.depth (awR k).sp (awE k) 0=awR (k+1):=by rw[hb,hg];rfl
 have hl:(awR (k+1)).lost=false:=by
  rcases (by omega:k=0\/k=1\/k=2\/k=3) with rfl|rfl|rfl|rfl
  ·rw[aw1]
  ·rw[aw2]
  ·rw[aw3]
  ·rw[aw4]
 have hp:=tw0 hT (awE k) 0 hE hsp oM;rw[hR] at hp;refine hp.mono ?_;rintro e w' ⟨lost,err,rfl,F,⟨rfl,rfl,y',x',t',N',hT',hN',hb',hx',-⟩|⟨_,ha,_⟩⟩
 ·have hr:=hT'.depth;have h1:=ei0 t';rw[hT'.high] at h1;have h2:(2:Nat)^x'.depth<=2^3:=lc9 dC hr;have h3:=kj0 t;refine⟨by rw[hl],B,bd,y',x',t',N',hT',oM,⟨hb',hx'⟩,hB,?_,hbs⟩;exact hF.trans F fun b hb hs=>by
   rcases hs with hs|hs|hs
   ·have:=hs.1;omega
   ·omega
   ·omega
 ·cases ha
theorem oP0 (w:World)(hT:Tab w):Calls Tryz.prog 69 #[] w fun e w'=>e = .returned (.bool true)/\Fq w w':=by
 have HM:=hid (li0 w hT);clear hT;go_enter Tryz.func69,Tryz.ntmps69;go_wp2_with fail
 refine HM.out.mono ?_;rintro e w1 ⟨B,bx,bd,y,x,r,rfl,F1,⟨hb1,hb2,hb3⟩,hI,hx,-⟩;have HI:=hid (show AwI w w.heap.size bx 0 w1 from⟨B,bd,y,x,_,3,hI,oM,⟨rfl,hx⟩,hb1,F1,⟨rfl,hb2,hb3⟩⟩);clear F1 hb1 hb2 hb3 hI hx HM;go_wp2_with fail
 go_loopg [4] 4 (fun n v wr=>∃ k:Nat,v = .int .i64 k/\n+k=4/\AwI w w.heap.size bx k wr)
 case atStart=>exact⟨0,rfl,rfl,HI.out⟩
 case round =>
  obtain⟨k,rfl,hnk,hA⟩:=hrel;have HA:=hid hA;clear hA;rcases (by omega:k=0\/k=1\/k=2\/k=3\/k=4) with rfl|rfl|rfl|rfl|rfl
  ·have hp:=nh0 HA.out oM;rw[Bg0] at hp;have HP:=hid hp;clear hp;go_wp2_with fail
   refine HP.out.mono ?_;rintro e V ⟨rfl,hA2⟩;have HA2:=hid hA2;clear hA2 HP;go_wp2_with fail
   go_roundg 3
   case measure=>omega
   case rel=>exact⟨1,by simp,oM,HA2.out⟩
  ·have hp:=nh0 HA.out oM;rw[Bf0] at hp;have HP:=hid hp;clear hp;go_wp2_with fail
   refine HP.out.mono ?_;rintro e V ⟨rfl,hA2⟩;have HA2:=hid hA2;clear hA2 HP;go_wp2_with fail
   go_roundg 2
   case measure=>omega
   case rel=>exact⟨2,by simp,oM,HA2.out⟩
  ·have hp:=nh0 HA.out oM;rw[Be0] at hp;have HP:=hid hp;clear hp;go_wp2_with fail
   refine HP.out.mono ?_;rintro e V ⟨rfl,hA2⟩;have HA2:=hid hA2;clear hA2 HP;go_wp2_with fail
   go_roundg 1
   case measure=>omega
   case rel=>exact⟨3,by simp,oM,HA2.out⟩
  ·have hp:=nh0 HA.out oM;rw[Bd0] at hp;have HP:=hid hp;clear hp;go_wp2_with fail
   refine HP.out.mono ?_;rintro e V ⟨rfl,hA2⟩;have HA2:=hid hA2;clear hA2 HP;go_wp2_with fail
   go_roundg 0
   case measure=>omega
   case rel=>exact⟨4,by simp,oM,HA2.out⟩
  ·obtain⟨B',bd',y',x',t',N',hT',hN',⟨hb',hx'⟩,hB',hF',hbs⟩:=HA.out;have HE:=hid (show hasB (tq0 t' x'.depth 9223372036854775809) 9223372036854775809=true/\to0 (atB (tq0 t' x'.depth 9223372036854775809) 9223372036854775809) = .agg #[.int .i64 0,.int .i64 0,.int .i64 0] by
    unfold tq0;rw[hb',hx',aw4];exact⟨by decide +kernel,by kernel_rfl⟩)
   have hf:=hT'.find (hash:=9223372036854775809) dC oM;rw[show ((9223372036854775809:Nat):Int)=9223372036854775809 by omega] at hf;have HFi:=hid hf;clear hf;have HH:=hi2 hF' (aI hB' (aI hbs hx'));clear hT' hN' hb' hx' hB' hF' hbs;go_wp2_with fail
   refine HFi.out.mono ?_;rintro e V ⟨c0,c1,c2,ok,err,rfl,F,⟨rfl,hok,hc,hI⟩|⟨_,ha,_⟩⟩;rotate_left
   ·cases ha
   rw[HE.out.1] at hok;rw[HE.out.2] at hc;cases hc;subst hok;obtain⟨V2,hV2⟩:=eX (V.alloc (.cells #[.int .i64 0,.int .i64 0,.int .i64 0] 116))
   have F2:Fq V V2:=by rw[<- hV2];exact (Fr.refl _ _).alloc _
   have b2:V2.heap[V.heap.size]?=some (.cells #[.int .i64 0,.int .i64 0,.int .i64 0] 116):=by rw[<- hV2];exact han _ _
   have HI2:=hid (hI.fr0 F2);obtain⟨tops2,L2,hM2,-⟩:=HI2.out.ex;have HDp:=hid (fun W (F:Fq V2 W)=>lK0 (hM2.fr0 F).idx (hM2.fr0 F).dir);have HSp:=hid (fun W (F:Fq V2 W)=>ja0 (hM2.fr0 F).idx);rw[HH.out.2.2.2,aw4] at HDp;rw[aw4] at HSp;obtain⟨a0,a1,a2,az,al⟩:=cells3 b2;have HV:=hid hV2;have HF:=hi2 F F2;clear hV2 F2 b2 hI F hM2;go_upto_region 11 with fail
   rw[HV.out];go_wp2_with fail
   refine (HDp.out _ (Fr.refl _ _)).mono ?_;rintro e V3 ⟨rfl,rfl⟩;go_wp2_with fail
   refine (HSp.out _ (Fr.refl _ _)).mono ?_;rintro e V4 ⟨rfl,rfl⟩;have heq:=qG0 0 0 0 0 0 0;simp only[decide_true,Bool.and_self] at heq;go_wp2_with fail
   refine bodyPost_ret (v:=.bool true) sR rfl ⟨rfl,?_⟩;have hb:=HH.out.2.1;have hbs:=HH.out.2.2.1;exact (FrI.fr0 (dd0 (FrB.trans HF.out.1 (FrB.none HF.out.2))) oM HH.out.1)
theorem kZ0 (es:List Bt)(h:Nat):es.take (plI es h)=es.takeWhile fun e=>decide (e.hash<h):=by
 unfold plI;exact (nc9.1 (List.takeWhile_prefix _)).symm
theorem rB0 (es:List Bt)(x:Bt)(hs:aa0 es):∃ rest,bK0 es x=(es.takeWhile fun e=>decide (e.hash<x.hash))++x :: rest:=by
 unfold bK0;split
 ·rename_i hb;obtain⟨y,hy,-⟩:=(bB0 hs).1 hb;have hlt:=(gI.1 hy).1;refine⟨es.drop (plI es x.hash+1),?_⟩;rw[<- kZ0,List.set_eq_take_append_cons_drop,if_pos hlt]
 ·exact⟨es.drop (plI es x.hash),by unfold hZ0;rw[kZ0]⟩
theorem zd0 (l:List Bt)(p:Bt->Bool)(x:Bt)(rest:List Bt)(hx:p x=false):(l.takeWhile p++x :: rest).takeWhile p=l.takeWhile p:=by
 induction l with
 | nil=>simp[hx]
 | cons y l ih =>
  rw[List.takeWhile_cons];split
  ·rename_i hy;simp[hy,ih]
  ·simp[hx]
theorem vI0 (es:List Bt)(x:Bt)(hs:aa0 es):hasB (bK0 es x) x.hash=true/\atB (bK0 es x) x.hash=some x:=by
 obtain⟨rest,hr⟩:=rB0 es x hs;have h1:hasB (bK0 es x) x.hash=true:=by rw[hr];unfold hasB;simp
 refine⟨h1,?_⟩;unfold atB;rw[if_pos h1];unfold plI;rw[hr,zd0 _ _ _ _ sP];simp
def fnd (es:List Bt)(h:Nat):Option Bt:=es.find? fun x=>decide (x.hash=h)
theorem gr0 (es:List Bt)(h:Nat):hasB es h=(fnd es h).isSome:=by
 unfold hasB fnd;induction es with
 | nil=>rfl
 | cons x l ih =>
  simp only[List.any_cons,ma9];by_cases hx:x.hash=h
  ·simp[hx]
  ·simp[hx,ih]
variable {es:List Bt}
theorem tF0 (hn:∀ x ∈ es,x.hash≠h):fnd es h=none:=by
 unfold fnd;rw[nd9];intro x hx;simpa using hn x hx
theorem pr0 (a b:List Bt)(h:Nat):fnd (a++b) h=(fnd a h).or (fnd b h):=by
 unfold fnd;rw[List.find?_append]
theorem tG0 (x:Bt)(l:List Bt)(h:Nat):fnd (x :: l) h=if x.hash=h then some x else fnd l h:=by
 unfold fnd;rw[ma9];by_cases hx:x.hash=h <;> simp[hx]
theorem AQ0 (es:List Bt)(h:Nat):∀ x ∈ es.takeWhile (fun e=>decide (e.hash<h)),x.hash<h:=by
 intro x hx;have:=List.all_takeWhile (l:=es) (p:=fun e=>decide (e.hash<h));rw[ns9] at this;simpa using this x hx
theorem xS0 (es:List Bt)(h:Nat):∀ x ∈ es.take (plI es h),x.hash<h:=by
 rw[kZ0];exact AQ0 es h
variable {y:Bt}
theorem wZ0 (hs:aa0 es)(hy:es[k]?=some y):∀ x ∈ es.drop (k+1),y.hash<x.hash:=by
 intro x hx;obtain⟨j,hj⟩:=lC9.1 hx;rw[lB9] at hj;have hk:=(gI.1 hy);have hj2:=(gI.1 hj);have:=lO9.1 hs k (k+1+j) hk.1 hj2.1 oM;rw[hk.2,hj2.2] at this;exact this
theorem oc0 (hy:es[k]?=some y):es=es.take k++y :: es.drop (k+1):=by
 have hk:=(gI.1 hy);have:=my9 k es;rw[mc9 hk.1,hk.2] at this;exact this.symm
theorem qA0 (hs:aa0 es)(hb:hasB es h=true):∃ y,es[plI es h]?=some y/\y.hash=h/\fnd es h=some y:=by
 obtain⟨y,hy,hh⟩:=(bB0 hs).1 hb;refine⟨y,hy,hh,?_⟩;have h0:=xS0 es h;rw[oc0 hy,pr0,tF0 (fun x hx=>by have:=h0 x hx;omega),tG0,if_pos hh];rfl
theorem wo0 (hs:aa0 es):atB es h=fnd es h:=by
 unfold atB;by_cases hb:hasB es h=true
 ·obtain⟨y,hy,hh,hf⟩:=qA0 hs hb;rw[if_pos hb,hy,hf]
 ·rw[if_neg hb];have:=gr0 es h;cases hf:fnd es h with
  | none=>rfl
  | some y=>rw[hf] at this;exact absurd this hb
def vY0 (h d:Nat):Bool:=decide (aY0 h (d+1) % 2=1)
def look:Tr->Nat->Nat->Nat × List Bt
 | .leaf _ es,d,_=>(d,es)
 | .node l r,d,h=>if vY0 h d=true then look r (d+1) h else look l (d+1) h
def yB0 (T:Tr):Tr->Nat->Nat->Tr
 | .leaf _ _,_,_=>T
 | .node l r,d,h=>if vY0 h d=true then .node l (yB0 T r (d+1) h) else .node (yB0 T l (d+1) h) r
def same:Tr->Nat->Nat->Nat->Bool
 | .leaf _ _,_,_,_=>true
 | .node l r,d,e,h=>if vY0 e d=true then vY0 h d && same r (d+1) e h else !vY0 h d && same l (d+1) e h
theorem mx0 {h:Nat}(hh:h<18446744073709551616):∀ (t:Tr) (g d p:Nat),t.high<=g->d+g<=20->(t.at_ g (aY0 h (d+g) % 2^g) d p).1=(look t d h).1/\(t.at_ g (aY0 h (d+g) % 2^g) d p).2.2.2=(look t d h).2/\∀ T,t.put g (aY0 h (d+g) % 2^g) (fun _ _=>T)=yB0 T t d h
 | .leaf _ _,_,_,_,_,_=>⟨rfl,rfl,fun _=>rfl⟩
 | .node l r,g,d,p,hg,h20=>by
  simp only[Tr.high] at hg;obtain⟨m,rfl⟩:∃ m,g=m+1:=⟨g-1,oM⟩
  have h1:aY0 h (d+(m+1))/2^m=aY0 h (d+1):=by
   have:=rC0 hh m (d+1) oM;rwa [show d+1+m=d+(m+1) by omega] at this
  have h2:aY0 h (d+(m+1)) % 2^(m+1)=aY0 h (d+(m+1)) % 2^m+2^m*(aY0 h (d+1) % 2):=by
   rw[lK9,Nat.mod_mul,h1]
  have h3:aY0 h (d+(m+1)) % 2^m<2^m:=mD9 _ (lW9 dC);have il:=mx0 hh l m (d+1) (2*p) oM oM;have ir:=mx0 hh r m (d+1) (2*p+1) oM oM;rw[show d+1+m=d+(m+1) by omega] at il ir;simp only[Tr.at_,Tr.put,look,yB0,lY9];by_cases hb:vY0 h d=true
  ·have hb':aY0 h (d+1) % 2=1:=by simpa[vY0] using hb
   rw[hb',Nat.mul_one] at h2;rw[h2,if_neg oM,if_pos hb,lY9];refine⟨ir.1,ir.2.1,fun T=>?_⟩;rw[if_neg oM,if_pos hb,ir.2.2 T]
  ·have hb':aY0 h (d+1) % 2=0:=by
    have:¬ aY0 h (d+1) % 2=1:=(by simpa[vY0] using hb);omega
   have h2:aY0 h (d+(m+1)) % 2^(m+1)=aY0 h (d+(m+1)) % 2^m:=by rw[h2,hb'];simp
   rw[h2,if_pos h3,if_neg hb];refine⟨il.1,il.2.1,fun T=>?_⟩;rw[if_pos h3,if_neg hb,il.2.2 T]
theorem at_root (hh:h<18446744073709551616)(t:Tr)(g:Nat)(hg:t.high<=g)(h20:g<=20):(t.at_ g (aY0 h g) 0 0).1=(look t 0 h).1/\(t.at_ g (aY0 h g) 0 0).2.2.2=(look t 0 h).2/\∀ T,t.put g (aY0 h g) (fun _ _=>T)=yB0 T t 0 h:=by
 have:=mx0 hh t g 0 0 hg oM;rw[lp9,Nat.mod_eq_of_lt (ii0 h20 hh)] at this;exact this
theorem nx0 (f:Rf->List Bt->Tr):∀ (t:Tr) (g k:Nat),t.high<=g->t.put (g+1) (2*k) f=t.put g k f
 | .leaf r es,g,k,_=>rfl
 | .node l r,g,k,h=>by
  simp only[Tr.high] at h;have h2:=Tr.ce0 (g:=g) oM;obtain⟨m,rfl⟩:∃ m,g=m+1:=⟨g-1,oM⟩
  simp only[Tr.put,lY9] at h2 ⊢;by_cases hlt:k<2^m
  ·rw[if_pos oM,if_pos hlt,nx0 f l m k oM]
  ·rw[if_neg oM,if_neg hlt,show 2*k-2^(m+1)=2*(k-2^m) by omega,nx0 f r m _ oM]
def Mx (t:Tr)(h:Nat):Option Bt:=fnd (look t 0 h).2 h
theorem look_bare:∀ (t:Tr) (d h:Nat),look (bare t) d h=look t d h
 | .leaf _ _,_,_=>rfl
 | .node l r,d,h=>by simp only[bare,look,look_bare l,look_bare r]
theorem mG0:∀ (t:Tr) (d p:Nat),okT t d p->okT (bare t) d p
 | .leaf _ _,_,_,h=>h
 | .node l r,d,p,h=>⟨mG0 l _ _ h.1,mG0 r _ _ h.2⟩
theorem qI0 (hh:h<18446744073709551616)(hg:t.high<=g)(h20:g<=20):tq0 t g h=(look t 0 h).2:=by
 unfold tq0;rw[(at_root hh (bare t) g (by rw[bq0];exact hg) h20).2.1,look_bare]
theorem look_ok (hh:h<18446744073709551616)(hg:t.high<=g)(h20:g<=20)(hok:okT t 0 0):∃ p,dn0 (look t 0 h).1 p (look t 0 h).2:=by
 have h1:=pT0 t g (aY0 h g) 0 0 hok;obtain⟨e1,e2,-⟩:=at_root hh t g hg h20;rw[e1,e2] at h1;exact⟨_,h1⟩
end
section
open Go.ChangeShapes Go.WideShapes Go.RowKit Go.Sg Go.Deep Go.Joins
structure tu0 where
 kind:Int
 oldest:Int
 e:Bt
instance:Inhabited tu0:=⟨⟨0,0,⟨0,0,0,0⟩⟩⟩
structure qs0 (x:tu0):Prop where
 wk:(Lit.int .i64 x.kind).wf=true
 wo:(Lit.int .i64 x.oldest).wf=true
 wh:x.e.hash<18446744073709551616
 wr:(Lit.int .i64 x.e.rg).wf=true
 wa:(Lit.int .i64 x.e.at_).wf=true
 ws:(Lit.int .i64 x.e.sz).wf=true
structure qr0 (w:World)(a:Option Addr)(l:List tu0):Prop where
 at_:∀ (i:Nat) (x:tu0),l[i]?=some x->∃ b off,a=some ⟨b,off,none⟩/\b<w.heap.size/\(w.cell? ⟨b,off+i*6,none⟩=some (.int .i64 x.kind)/\w.cell? ⟨b,off+i*6+1,none⟩=some (.int .i64 x.oldest))/\(w.cell? ⟨b,off+i*6+2,none⟩=some (.int .u64 x.e.hash)/\w.cell? ⟨b,off+i*6+3,none⟩=some (.int .i64 x.e.rg)/\w.cell? ⟨b,off+i*6+4,none⟩=some (.int .i64 x.e.at_)/\w.cell? ⟨b,off+i*6+5,none⟩=some (.int .i64 x.e.sz))/\qs0 x
theorem qr0.fr {w w':World}{a:Option Addr}{l:List tu0}(h:qr0 w a l)(F:Fq w w'):qr0 w' a l:=
 ⟨fun i x hx=>by
  obtain⟨b,off,h1,h2,⟨h3,h4⟩,⟨h5,h6,h7,h8⟩,h9⟩:=h.at_ i x hx;exact⟨b,off,h1,nLL h2 F.size,⟨(F.cell (p:=⟨b,_,none⟩) h2 id).trans h3,(F.cell (p:=⟨b,_,none⟩) h2 id).trans h4⟩,⟨(F.cell (p:=⟨b,_,none⟩) h2 id).trans h5,(F.cell (p:=⟨b,_,none⟩) h2 id).trans h6,(F.cell (p:=⟨b,_,none⟩) h2 id).trans h7,(F.cell (p:=⟨b,_,none⟩) h2 id).trans h8⟩,h9⟩⟩
section
variable {H:Type}{enc:TypeId × Value->H}{W:World}
theorem tW0:Tryz.prog.cellsOf 110=4:=by kernel_rfl
theorem tV0:Tryz.prog.cellsOf 112=6:=by kernel_rfl
theorem px0:∃ f0 f1 f2 f3:Field,Tryz.prog.underlying 110=some (.struct #[f0,f1,f2,f3])/\(f0.offset=0/\f0.type=29)/\(f1.offset=1/\f1.type=3)/\(f2.offset=2/\f2.type=3)/\(f3.offset=3/\f3.type=3):=⟨_,_,_,_,Tryz.underlying110,⟨rfl,rfl⟩,⟨rfl,rfl⟩,⟨rfl,rfl⟩,⟨rfl,rfl⟩⟩
theorem my0:∃ f0 f1 f2:Field,Tryz.prog.underlying 112=some (.struct #[f0,f1,f2])/\(f0.offset=0/\f0.type=3)/\(f1.offset=1/\f1.type=3)/\(f2.offset=2/\f2.type=110):=⟨_,_,_,Tryz.underlying112,⟨rfl,rfl⟩,⟨rfl,rfl⟩,⟨rfl,rfl⟩⟩
theorem mb0 {fuel:Nat}{cs:List Value}{x:DataW H × List MemPlace}(h:DataW.trod enc Tryz.prog W 0 (fun _=>true) true fuel 110 cs=some x) :
  ∃ (hh:Nat) (r p s:Int),(cs[0]?=some (.int .u64 hh)/\cs[1]?=some (.int .i64 r)/\cs[2]?=some (.int .i64 p)/\cs[3]?=some (.int .i64 s))/\hh<18446744073709551616/\(Lit.int .i64 r).wf=true/\(Lit.int .i64 p).wf=true/\(Lit.int .i64 s).wf=true:=by
 obtain⟨f0,f1,f2,f3,he,h0,h1,h2,h3⟩:=px0;obtain⟨ys,n',_,_,hl,hyl,hg⟩:=DataW.trod_struct he h;rw[tW0] at hl;have one:∀ (j:Nat) (f:Field),(#[f0,f1,f2,f3]:Array Field)[j]?=some f->f.offset=j->f.type=3->j<4->∃ z,cs[j]?=some (.int .i64 z)/\(Lit.int .i64 z).wf=true:=by
  intro j f hj ho hty hj3;have h3:=hg j f hj;have hys:ys[j]?=some (ys[j]'(by rw[hyl];exact hj3)):=gE _;rw[hys,hty] at h3;obtain⟨z,hz,_,hw⟩:=DataW.trod_int Tryz.underlying3 h3;refine⟨z,?_,hw⟩;have h4:((cs.drop f.offset).take (Tryz.prog.cellsOf 3))[0]?=some (.int .i64 z):=by rw[hz];rfl
  rw[gT] at h4;split at h4
  ·simpa[ho] using h4
  ·cases h4
 obtain⟨hh,e0,w0⟩:∃ hh:Nat,cs[0]?=some (.int .u64 hh)/\hh<18446744073709551616:=by
  have h3:=hg 0 f0 rfl;have hys:ys[0]?=some (ys[0]'(by rw[hyl];exact (show 0<4 by decide))):=gE _;rw[hys,h0.2] at h3;obtain⟨z,hz,_,hw⟩:=DataW.trod_int Tryz.underlying29 h3;have hz0:0<=z/\z<18446744073709551616:=by simp[Lit.wf,IntKind.min,IntKind.max,IntKind.signed,IntKind.bits] at hw;omega
  obtain⟨zn,rfl⟩:=iZ hz0.1;refine⟨zn,?_,oM⟩;have h4:((cs.drop f0.offset).take (Tryz.prog.cellsOf 29))[0]?=some (.int .u64 zn):=by rw[hz];rfl
  rw[gT] at h4;split at h4
  ·simpa[h0.1] using h4
  ·cases h4
 obtain⟨z1,e1,w1⟩:=one 1 f1 rfl h1.1 h1.2 oM;obtain⟨z2,e2,w2⟩:=one 2 f2 rfl h2.1 h2.2 oM;obtain⟨z3,e3,w3⟩:=one 3 f3 rfl h3.1 h3.2 oM;exact⟨hh,z1,z2,z3,⟨e0,e1,e2,e3⟩,w0,w1,w2,w3⟩
theorem rN0 {base:Nat}{v:Value}{d:DataW H}{p:List MemPlace}(hv:Value.okWide Tryz.prog W .any base 104 v)(h:DataW.Trod enc Tryz.prog W 0 (fun _=>true) true 104 v d p) :
  ∃ (a:Option Addr) (n c:Nat) (l:List tu0),v = .slice a n c/\l.length=n/\qr0 W a l:=by
 obtain⟨a,len,cap,rfl⟩:=okWide_slice Tryz.underlying104 hv;obtain⟨f0,f1,f2,he,h0,h1,h2⟩:=my0;obtain⟨fuel,hf⟩:=h;rcases open_slice Tryz.underlying104 hf with⟨hcs,_⟩|⟨a',len',cap',m,n,D,Pl,hcs,_,hl,hm,hmm,_,hx⟩
 ·simp[Value.cells] at hcs;obtain⟨rfl,rfl,rfl⟩:=hcs;exact⟨none,0,0,[],rfl,rfl,⟨fun i x hx=>by simp at hx⟩⟩
 ·simp[Value.cells] at hcs;obtain⟨rfl,rfl,rfl⟩:=hcs;simp at hmm;subst hmm;have key:∀ i,i<len->∃ x:tu0,(W.cell? (a'.add (i*6))=some (.int .i64 x.kind)/\W.cell? ((a'.add (i*6)).add 1)=some (.int .i64 x.oldest))/\(W.cell? ((a'.add (i*6)).add 2)=some (.int .u64 x.e.hash)/\W.cell? ((a'.add (i*6)).add 3)=some (.int .i64 x.e.rg)/\W.cell? ((a'.add (i*6)).add 4)=some (.int .i64 x.e.at_)/\W.cell? ((a'.add (i*6)).add 5)=some (.int .i64 x.e.sz))/\qs0 x:=by
   intro i hil;obtain⟨cs',hc,ht'⟩:=hx i oM;rw[tV0] at hc;obtain⟨_,hcl,hat⟩:=World.cells?_some hc;obtain⟨ys,n',_,_,_,hyl,hg⟩:=DataW.trod_struct he ht';have one:∀ (j:Nat) (f:Field),(#[f0,f1,f2]:Array Field)[j]?=some f->f.offset=j->f.type=3->j<3->∃ z,cs'[j]?=some (.int .i64 z)/\(Lit.int .i64 z).wf=true:=by
    intro j f hj ho hty hj3;have h3:=hg j f hj;have hys:ys[j]?=some (ys[j]'(by rw[hyl];exact hj3)):=gE _;rw[hys,hty] at h3;obtain⟨z,hz,_,hw⟩:=DataW.trod_int Tryz.underlying3 h3;refine⟨z,?_,hw⟩;have h4:((cs'.drop f.offset).take (Tryz.prog.cellsOf 3))[0]?=some (.int .i64 z):=(by rw[hz];rfl);rw[gT] at h4;split at h4
    ·simpa[ho] using h4
    ·cases h4
   obtain⟨z0,e0,w0⟩:=one 0 f0 rfl h0.1 h0.2 oM;obtain⟨z1,e1,w1⟩:=one 1 f1 rfl h1.1 h1.2 oM;obtain⟨hh,r,p,s,⟨k0,k1,k2,k3⟩,wh,wr,wp,ws⟩:∃ (hh:Nat) (r p s:Int),(cs'[2]?=some (.int .u64 hh)/\cs'[3]?=some (.int .i64 r)/\cs'[4]?=some (.int .i64 p)/\cs'[5]?=some (.int .i64 s))/\hh<18446744073709551616/\(Lit.int .i64 r).wf=true/\(Lit.int .i64 p).wf=true/\(Lit.int .i64 s).wf=true:=by
    have h3:=hg 2 f2 rfl;have hys:ys[2]?=some (ys[2]'(by rw[hyl];exact (show 2<3 by decide))):=gE _;rw[hys,h2.2] at h3;obtain⟨hh,r,p,s,⟨k0,k1,k2,k3⟩,ww⟩:=mb0 h3;refine⟨hh,r,p,s,⟨?_,?_,?_,?_⟩,ww⟩;all_goals
     first
      | (rw[gT,lB9,h2.1] at k0;split at k0 <;> first|exact k0|cases k0)
      | (rw[gT,lB9,h2.1] at k1;split at k1 <;> first|exact k1|cases k1)
      | (rw[gT,lB9,h2.1] at k2;split at k2 <;> first|exact k2|cases k2)
      | (rw[gT,lB9,h2.1] at k3;split at k3 <;> first|exact k3|cases k3)
   have q0:=(hat 0 oM).trans e0;have q1:=(hat 1 oM).trans e1;have q2:=(hat 2 oM).trans k0;have q3:=(hat 3 oM).trans k1;have q4:=(hat 4 oM).trans k2;have q5:=(hat 5 oM).trans k3;exact⟨⟨z0,z1,⟨hh,r,p,s⟩⟩,⟨by simpa[Addr.add] using q0,q1⟩,⟨q2,q3,q4,q5⟩,⟨w0,w1,wh,wr,wp,ws⟩⟩
  obtain⟨V,hV⟩:=choose_lt (α:=tu0) key;refine⟨_,len,_,(List.range len).map V,rfl,by simp,⟨fun i x hx=>?_⟩⟩;have hil:i<len:=by
   have:=(gI.1 hx).1;simpa using this
  simp[hil] at hx;subst hx;obtain⟨⟨k0,k1⟩,⟨k2,k3,k4,k5⟩,kw⟩:=hV i hil;have hs0:=(hV 0 oM).1.1;simp[Addr.add] at hs0;have hs:=sI0 hs0;obtain⟨b,off,hab⟩:∃ b off,a'=⟨b,off,none⟩:=⟨_,_,hs⟩
  subst hab;have hb:=World.block_lt_of_cell? _ _ hs0;simp only[aI0] at k0 k1 k2 k3 k4 k5;exact⟨b,off,rfl,hb,⟨k0,k1⟩,⟨k2,k3,k4,k5⟩,kw⟩
end
end
section
open Go.RowKit Go.Sg Go.Sg.Bits Go.Sg.Clk CP SF
theorem if0 {E:Bt}{o c:Int}:∀ (f:Nat) (t:Tr) (g:Nat) (sp:Int),sp+c=t.refs.length->(gj0 f t g sp E o).sp+c=(gj0 f t g sp E o).t.refs.length
 | 0,t,g,sp,h=>h
 | n+1,t,g,sp,h=>by
  obtain⟨⟨D,p,r,es⟩,hz⟩:∃ z,t.at_ g (aY0 E.hash g) 0 0=z:=⟨_,rfl⟩
  simp only[gj0,hz];obtain⟨es',hes⟩:=eX (aG0 es E.hash o)
  rw[hes];have h1:=bS0 (iz0 (bK0 es' E)) 1 (fun _ _=>rfl) t g (aY0 E.hash g);have h2:=bS0 (dW0 D es') 2 (fun _ _=>rfl) t (g+1) (2*aY0 E.hash g);have h3:=bS0 (dW0 D es') 2 (fun _ _=>rfl) t g (aY0 E.hash g);have h4:=bS0 (iz0 (bK0 (es'.eraseIdx (dm0 es' es'.length).toNat) E)) 1 (fun _ _=>rfl) t g (aY0 E.hash g);by_cases hr:bJ0 es' E.hash 3=true
  ·rw[if_pos hr];show sp+c=_;simp only;omega
  ·rw[if_neg hr];by_cases hD:D<3
   ·rw[if_pos hD];by_cases hg:D=g
    ·rw[if_pos hg];exact if0 n _ _ _ oM
    ·rw[if_neg hg];exact if0 n _ _ _ oM
   ·rw[if_neg hD];show sp+c=_;simp only;omega
theorem nM0 {B:Blk}{w w':World}{bx bd s sl most:Nat}{sp:Int}{x:aL0}(h:FrX B (fun b=>b=bd\/b=bx) w w')(hD:aj0 w bd s x)(hI:cn0 w bx s bd sl most sp)(hb:B.base<=bd/\B.base<=bx):FrI B.base w w':=Fr.mono h fun b _ hs=>by
 rcases hs with hs|rfl|rfl
 ·exact⟨hs.1,fun c t f hc=>lM9 _ (lM9 _ (hs.2.1 c t f hc))⟩
 ·exact⟨hb.1,fun c t f hc=>by rw[hD] at hc;cases hc;simp⟩
 ·exact⟨hb.2,fun c t f hc=>by rw[hI] at hc;cases hc;simp⟩
section
variable {w0 V V':World}{base bx k:Nat}{t:Tr}
theorem uM0 {t:Tr}(h:t.high<=3):t.refs.length<=8:=by
 have h1:=ei0 t;have h2:(2:Nat)^t.high<=2^3:=lc9 dC h;omega
end
theorem vi0 {E:Bt}(hh:E.hash<18446744073709551616)(hb:aM0 E=false)(bx:Nat)(o:Int)(w:World) :
  Calls Tryz.prog 64 #[cG0 bx,btV E,.int .i64 o] w fun e w'=>e = .returned (.tuple #[.bool false,.int .i64 5])/\Fq w w':=by
 obtain⟨w1,hw1⟩:=eX (w.alloc (.cells #[.int .u64 E.hash,.int .i64 E.rg,.int .i64 E.at_,.int .i64 E.sz] 118))
 have b1:w1.heap[w.heap.size]?=some (.cells #[.int .u64 E.hash,.int .i64 E.rg,.int .i64 E.at_,.int .i64 E.sz] 118):=by rw[<- hw1];exact han _ _
 have F1:Fq w w1:=by rw[<- hw1];exact (Fr.refl _ _).alloc _
 have HF:=hid F1;have hx:=oV0 hh w1;rw[hb] at hx;have HX:=hid hx;obtain⟨t0,t1,t2,t3,tz,tl⟩:=ah0 b1;have HW:=hid hw1;clear hw1 b1 F1 hx hb;go_enter Tryz.func64,Tryz.ntmps64;go_upto_region 1 with fail
 rw[HW.out];go_step3
 go_wp2_with fail
 refine HX.out.mono ?_;rintro e w2 ⟨rfl,F2⟩;have HF2:=hid (HF.out.trans F2 nI);clear F2 t0 t1 t2 t3 tz tl;go_wp2_with fail
 simp only[Exit.noGoto];go_ret2;exact⟨rfl,HF2.out⟩
end
end Go.Proofs.YtgdhaaokolfdoaaGreatDoor
namespace Go.Sg
open Go.RowKit
variable {F:Fence}{n:Nat}{P:Program}
def vd0 {α:Type}(F:Fence)(n:Nat)(P:Program)(g:Nat)(lb:Array Value)(encs:α->Array Value)(T:α->World->Prop)(R Kp:World->World->Prop)(S Sp:List α->Prop)(E:World->Prop)(N:Nat)(w:World):Prop:=
 ∀ (l:Nat) (J Jx:List α->World->Prop) (W:World),Below w.heap.size w W->OwnFrom W.heap.size J->OwnFrom W.heap.size Jx->(∀ pre A C,J pre A->R A C->J pre C) ->
  (∀ pre x W1,J pre W1->T x W1->pre.length<N->YieldAt F (n-1) P l (encs x) W1 fun e W'=>(e = .returned (.bool true)/\J (pre++[x]) W'/\Kp W1 W')\/(e = .returned (.bool false)/\Jx (pre++[x]) W')) ->
  J [] W->CallsIn F n P g (#[.func (.yield l) #[] #[]]++lb) W fun e W'=>(∃ v,e = .returned v)/\((∃ xs,S xs/\J xs W'/\E W')\/(∃ pre,Sp pre/\Jx pre W'))
theorem iI0 {α:Type}{g:Operand}{ps:Array Tmp}{assign body:Code}{Q:Exit->Act->World->Prop}{a:Act}{w:World}
  (hro:F.round=none) (h1:1<=n) {gf:Nat} {lb:Array Value} (hg:a.eval g = .func (.func gf) #[] lb) (hFg:F.fn gf) (eg:∀ args w,(callFunc gf args).run P w = .ok (.enter gf args) w)
  {encs:α->Array Value} {R Kp:World->World->Prop} {S Sp:List α->Prop} {E:World->Prop} {N:Nat} {w0:World} {T:α->World->Prop} (I:List α->World->Prop) (hseq:vd0 F (n-1) P gf lb encs T R Kp S Sp E N w0)
  (hIR:∀ pre A C,I pre A->R A C->I pre C) (hRk:∀ A C b o,R A C->w.heap.size<=b->A.heap[b]?=some o->o.isCells=false->C.heap[b]?=some o)
  (hE:∀ (W:World) (l:Nat) (o o':Obj),w.heap.size<=l->W.heap[l]?=some o->o.isCells=false->o.isWalk=false->E W->E (W.putObj l o'))
  (hKt:∀ {A B C:World},Kp A B->Kp B C->Kp A C) (hKb:∀ (W:World) (l:Nat) (o o':Obj),w.heap.size<=l->W.heap[l]?=some o->o.isCells=false->o.isWalk=false->Kp W (W.putObj l o'))
  (hb0:Below w0.heap.size w0 w) (hps:∀ x,(encs x).size=ps.size)
  (Ix:Code->List α->World->Prop) (hI:OwnFrom w.heap.size I) (hIx:∀ c,OwnFrom w.heap.size (Ix c)) (h0:I [] w) (Ax:α->Act->World->Prop) (hAx:∀ x a',OwnFrom w.heap.size (fun (_:Unit) W=>Ax x a' W))
  (hassign:∀ (l:Nat) (pre:List α) (x:α) (W:World) (K:Act->World->Prop),I pre W->T x W->(∀ a' W',KeepsFrom w.heap.size W W'->Kp W W'->I pre W'->Ax x a' W'->K a' W') ->
   assign.wpIn (F.inRound l) (n-1-1) P (Exit.then K (fun _ _ _=>False)) { tmps:=(ps.zip (encs x)).foldl (fun t (p,v)=>t.setIfInBounds p v) a.tmps,defers:=[] } W)
  (hbody:∀ (l:Nat) (pre:List α) (x:α) (a':Act) (W:World),w.heap.size<=l->(∃ r,W.heap[l]?=some (.loop r))->I pre W->Ax x a' W->pre.length<N->body.wpIn (F.inRound l) (n-1-1) P (jV0 w.heap.size Kp I Ix (pre++[x]) W) a' W)
  (hdone:∀ (D:Nat) (xs:List α) (W:World),w.heap.size<=D->S xs->I xs W->E W->W.heap[D]?=some (.deferred (some []))->Q .normal { a with defers:={ target:=.collected D,args:=#[] } :: a.defers } W)
  (hstop:∀ (D:Nat) (c:Code) (pre:List α) (W:World),w.heap.size<=D->Sp pre->Ix c pre W->W.heap[D]?=some (.deferred (some []))->c.wpIn F n P Q { a with defers:={ target:=.collected D,args:=#[] } :: a.defers } W) :
  (Code.rangeFunc g ps assign body).wpIn F n P Q a w:=by
 refine wpIn_rangeFunc fun fn hfn=>?_
 rw[hro];-- the loop's record,in whatever state
 let rec_:LoopState->Option Code->Loop:=fun st pe=>{ state:=st,pending:=pe,fn,tmps:=a.tmps,params:=ps,assign,body,defers:=w.heap.size }
 obtain⟨rd,hrd⟩:=xe rec_
 have rst:∀ st pe,(rd st pe).state=st:=fun st pe=>by rw[hrd]
 have rpe:∀ st pe,(rd st pe).pending=pe:=fun st pe=>by rw[hrd]
 obtain⟨L,hL⟩:=xe (w.heap.size+1)
 obtain⟨W1,hW1⟩:=eX ((w.alloc (.deferred (some []))).alloc (.loop (rd .ready none)))
 obtain⟨hD1,hL1,F1⟩:=ai0 hW1;rw[<- hL] at hL1;have hI1:I [] W1:=by rw[<- hW1];exact hI.alloc _ (hI.alloc _ h0)
 have hb1:Below w0.heap.size w0 W1:=by
  refine hb0.trans ((Fr.below (S:=fun _=>False) F1 nI).mono hb0.size)
 have hs1:W1.heap.size=w.heap.size+2:=by rw[<- hW1];simp
 refine⟨L,[{ target:=.collected w.heap.size,args:=#[] }],W1,{ target:=.fn (.func gf) lb,args:=#[.func (.yield L) #[] #[]] },W1,gf,#[.func (.yield L) #[] #[]]++lb,W1,?_,?_,?_,?_,fun _=>h1,?_⟩
 ·rw[<- hW1,hL,hrd];exact run_enterLoop_outer _ _ _ _ _
 ·simp only[resolve,hg];simp[go_sem]
 ·intro f' hf';simp[Target.leads] at hf';subst hf';exact hFg
 ·simp[invoke,go_sem,eg]
 have hwalk:∀ {A:World} {row:Option Nat},(∀ r,row=some r->W1.heap.size<=r/\∃ o:Obj,A.heap[r]?=some o/\o.isCells=false)->(∀ r,row=some r->w.heap.size<=r/\∃ o:Obj,A.heap[r]?=some o/\o.isCells=false):=
  fun hr r e=>by obtain⟨hB,h⟩:=hr r e;exact⟨oM,h⟩
 have hold:∀ {A B:World} {row:Option Nat} {b:Nat} {o:Obj},A.grownBy B row->(∀ r,row=some r->W1.heap.size<=r/\∃ o:Obj,A.heap[r]?=some o/\o.isCells=false)->b<W1.heap.size->A.heap[b]?=some o->B.heap[b]?=some o:=
  fun hg' hr hb ho=>(hg'.block _ (loh ho) (fun e=>by have:=(hr _ e.symm).1;omega)).trans ho
 have hY:∀ pre x W,(I pre W/\W.heap[L]?=some (.loop (rd .ready none))/\W.heap[w.heap.size]?=some (.deferred (some [])))->T x W->pre.length<N ->
   YieldAt F (n-1-1) P L (encs x) W fun e W'=>(e = .returned (.bool true)/\(I (pre++[x]) W'/\W'.heap[L]?=some (.loop (rd .ready none))/\W'.heap[w.heap.size]?=some (.deferred (some [])))/\Kp W W') \/
    (e = .returned (.bool false)/\∃ c,Ix c (pre++[x]) W'/\W'.heap[L]?=some (.loop (rd .done (some c)))/\W'.heap[w.heap.size]?=some (.deferred (some []))):=by
  rintro pre x W ⟨hi,hl,hk⟩ hT hlen;have hy:=run_yield (P:=P) (args:=encs x) hl (by rw[hrd];exact hps x);rw[hrd] at hy;refine⟨fn,_,assign,body,hy,roundIn_of_wpIn hfn (hassign _ pre x W _ hi hT fun a' Wa hka hkp hia hax=>?_)⟩;have hla:=hka.same _ _ oM hl rfl;have hka':=hka.same _ _ (nR _) hk rfl;have hlt:L<Wa.heap.size:=loh hla;refine⟨_,run_beginRound hla (rst _ _),?_⟩;obtain⟨busy,hbusy⟩:∃ busy:Loop,{ rd .ready none with state:=.busy }=busy:=⟨_,rfl⟩
  rw[hbusy];have hl2:(Wa.putObj L (.loop busy)).heap[L]?=some (.loop busy):=World.putObj_heap_same hlt;have hk2:(Wa.putObj L (.loop busy)).heap[w.heap.size]?=some (.deferred (some [])):=(World.putObj_heap_other oM).trans hka';refine wpIn_mono (hbody _ pre x a' _ oM ⟨_,hl2⟩ (hI.putObj _ hia oM hla rfl) ((hAx x a').putObj (s:=()) _ hax oM hla rfl) hlen) ?_;have fin:∀ (jump:Option Code) (W3:World),KeepsFrom w.heap.size (Wa.putObj L (.loop busy)) W3 ->
    (Instr.endRound L jump).run P W3 = .ok (.bool jump.isNone) (W3.putObj L (.loop (rd (if jump.isNone then .ready else .done) jump)))/\W3.heap[L]?=some (.loop busy) /\
    (W3.putObj L (.loop (rd (if jump.isNone then .ready else .done) jump))).heap[L]?=some (.loop (rd (if jump.isNone then .ready else .done) jump)) /\
    (W3.putObj L (.loop (rd (if jump.isNone then .ready else .done) jump))).heap[w.heap.size]?=some (.deferred (some [])):=fun jump W3 hk3=>by
   have hl3:=hk3.same _ _ oM hl2 rfl;refine⟨?_,hl3,World.putObj_heap_same (loh hl3),(World.putObj_heap_other oM).trans (hk3.same _ _ (nR _) hk2 rfl)⟩;have:=run_endRound (P:=P) jump hl3;rw[<- hbusy,hrd] at this;rw[hrd];exact this
  have hw2:Kp Wa (Wa.putObj L (.loop busy)):=hKb _ _ _ _ oM hla rfl rfl;rintro e a3 W3 hp;have out:∀ c,KeepsFrom w.heap.size (Wa.putObj L (.loop busy)) W3/\Ix c (pre++[x]) W3->∃ v W4,(Instr.endRound L (some c)).run P W3 = .ok v W4/\((Ending.returned v = .returned (.bool true)/\(I (pre++[x]) W4/\W4.heap[L]?=some (.loop (rd .ready none))/\W4.heap[w.heap.size]?=some (.deferred (some [])))/\Kp W W4) \/
    (Ending.returned v = .returned (.bool false)/\∃ c,Ix c (pre++[x]) W4/\W4.heap[L]?=some (.loop (rd .done (some c)))/\W4.heap[w.heap.size]?=some (.deferred (some [])))):=by
   rintro c ⟨hk3,hi3⟩;obtain⟨hr,hl3,hl4,hk4⟩:=fin (some c) W3 hk3;exact⟨_,_,hr,.inr ⟨rfl,c,(hIx c).putObj _ hi3 oM hl3 rfl,hl4,hk4⟩⟩
  cases e with
  | normal =>
   obtain⟨hk3,hkp3,hi3⟩:=hp;obtain⟨hr,hl3,hl4,hk4⟩:=fin none W3 hk3;exact⟨_,_,hr,.inl ⟨rfl,⟨hI.putObj _ hi3 oM hl3 rfl,hl4,hk4⟩,hKt hkp (hKt (hKt hw2 hkp3) (hKb _ _ _ _ oM hl3 rfl rfl))⟩⟩
  | ret=>exact out _ hp
  | exit id=>exact out _ hp
  | goto t=>exact out _ hp
  | panic ch=>exact hp.elim
  | outgrown=>exact hp.elim
 have hcall:=hseq L (fun pre W=>I pre W/\W.heap[L]?=some (.loop (rd .ready none))/\W.heap[w.heap.size]?=some (.deferred (some [])))
  (fun pre W=>∃ c,Ix c pre W/\W.heap[L]?=some (.loop (rd .done (some c)))/\W.heap[w.heap.size]?=some (.deferred (some []))) W1 hb1
  (fun s A B row hs hg' hr=>⟨hI s A B row hs.1 hg' (hwalk hr),hold hg' hr oM hs.2.1,hold hg' hr oM hs.2.2⟩)
  (fun s A B row hs hg' hr=>by
   obtain⟨c,hc,hl,hk⟩:=hs;exact⟨c,hIx c s A B row hc hg' (hwalk hr),hold hg' hr oM hl,hold hg' hr oM hk⟩)
  (fun pre A C hj hR=>⟨hIR pre A C hj.1 hR,hRk A C _ _ hR oM hj.2.1 rfl,hRk A C _ _ hR (nR _) hj.2.2 rfl⟩)
  hY ⟨hI1,hL1,hD1⟩
 refine hcall.mono ?_;rintro e W2 ⟨⟨v,rfl⟩,(⟨xs,hS,⟨hi,hl,hk⟩,hEn⟩|⟨pre,hSp,c,hi,hl,hk⟩)⟩
 ·have hr:=run_endLoop (P:=P) hl (by rw[rst];simp);rw[rpe] at hr;exact⟨none,_,hr,hdone _ xs _ (nR _) hS (hI.putObj _ hi oM hl rfl) (hE _ _ _ _ oM hl rfl rfl hEn) ((World.putObj_heap_other oM).trans hk)⟩
 ·have hr:=run_endLoop (P:=P) hl (by rw[rst];simp);rw[rpe] at hr;exact⟨some c,_,hr,hstop _ c pre _ (nR _) hSp ((hIx c).putObj _ hi oM hl rfl) ((World.putObj_heap_other oM).trans hk)⟩
end Go.Sg
namespace Go.Proofs.YtgdhaaokolfdoaaGreatDoor
open Go.RowKit Go.Sg Go.Sg.Bits Go.Sg.Clk CP SF
abbrev Sd:=Nat × Nat × Rf × List Bt
def bP0:Tr->Nat->Nat->Nat->List Sd
 | .leaf r es,g,d,p=>List.replicate (2^g) (d,p,r,es)
 | .node l r,g,d,p=>bP0 l (g-1) (d+1) (2*p)++bP0 r (g-1) (d+1) (2*p+1)
def lvs:Tr->Nat->Nat->List Sd
 | .leaf r es,d,p=>[(d,p,r,es)]
 | .node l r,d,p=>lvs l (d+1) (2*p)++lvs r (d+1) (2*p+1)
theorem bD0:∀ (t:Tr) (g d p:Nat),(bP0 t g d p).map (·.2.2.1)=t.slots g
 | .leaf r es,g,d,p=>by simp[bP0,Tr.slots]
 | .node l r,g,d,p=>by simp only[bP0,Tr.slots,lt9,bD0 l,bD0 r]
theorem cI0 (t:Tr)(g d p:Nat)(h:t.high<=g):(bP0 t g d p).length=2^g:=by
 have:=congrArg List.length (bD0 t g d p);rw[ln9,Tr.ba0 t g h] at this;exact this
theorem dG0:∀ (t:Tr) (g d p:Nat) (s:Sd),s ∈ bP0 t g d p->s ∈ lvs t d p
 | .leaf r es,g,d,p,s,h=>by
  have:=mh9 h;simp[lvs,this]
 | .node l r,g,d,p,s,h=>by
  simp only[bP0,lvs,lb9] at h ⊢;exact h.imp (dG0 l _ _ _ s) (dG0 r _ _ _ s)
theorem fb0:∀ (t:Tr) (d p:Nat),lds t d p=(lvs t d p).map fun s=>(s.2.2.1,aA0 s.1 s.2.1 s.2.2.2)
 | .leaf r es,d,p=>rfl
 | .node l r,d,p=>by simp only[lds,lvs,lt9,fb0 l,fb0 r]
theorem nC0:∀ (t:Tr) (d p:Nat),okT t d p->p<2^d->∀ s ∈ lvs t d p,dn0 s.1 s.2.1 s.2.2.2/\s.2.1<2^s.1/\d<=s.1/\s.1<=d+t.high
 | .leaf r es,d,p,h,hp,s,hs=>by
  simp only[lvs,lQ9] at hs;subst hs;exact⟨h,hp,nR _,Nat.le_add_right _ _⟩
 | .node l r,d,p,h,hp,s,hs=>by
  simp only[lvs,lb9] at hs;simp only[Tr.high];have e:2^(d+1)=2^d*2:=lK9 ..;rcases hs with hs|hs
  ·obtain⟨h1,h2,h3,h4⟩:=nC0 l _ _ h.1 oM s hs;exact⟨h1,h2,oM,oM⟩
  ·obtain⟨h1,h2,h3,h4⟩:=nC0 r _ _ h.2 oM s hs;exact⟨h1,h2,oM,oM⟩
theorem lb0 {α β:Type}{f:α->β}:∀ {l:List α},(l.map f).Nodup->∀ {x y:α},x ∈ l->y ∈ l->f x=f y->x=y
 | [],_,x,y,hx,_,_=>by cases hx
 | a :: l,h,x,y,hx,hy,e=>by
  rw[mj9,List.nodup_cons] at h;rcases lA9.1 hx with e1|hx'
  ·rcases lA9.1 hy with e2|hy'
   ·rw[e1,e2]
   ·refine absurd ?_ h.1;rw[<- e1,e];exact List.mem_map_of_mem hy'
  ·rcases lA9.1 hy with e2|hy'
   ·refine absurd ?_ h.1;rw[<- e2,<- e];exact List.mem_map_of_mem hx'
   ·exact lb0 h.2 hx' hy' e
variable {t:Tr}{L:List Bp}{s:Sd}{N bo m:Nat}{A C D w w':World}{S:Nat->Prop}{a:Bool}
theorem xz0 (hn:(bpg L).Nodup)(hP:L.Perm (lds t 0 0)){s':Sd}(hs:s ∈ lvs t 0 0)(hs':s' ∈ lvs t 0 0)(e:s.2.2.1=s'.2.2.1):s=s':=by
 have h1:((lds t 0 0).map fun q=>q.1.1.toNat).Nodup:=(hP.map _).nodup_iff.1 hn;rw[fb0,mP9] at h1;exact lb0 h1 hs hs' (by simp only[Function.comp_apply,e])
theorem vP0 (hP:L.Perm (lds t 0 0))(hs:s ∈ lvs t 0 0):(s.2.2.1,aA0 s.1 s.2.1 s.2.2.2) ∈ L:=by
 rw[hP.mem_iff,fb0];exact ld9.2 ⟨s,hs,rfl⟩
def PtB (bo:Nat)(A:World)(g:Nat):Prop:=∃ v:Value,A.heap[bo]?=some (.cells #[v] 124)/\v.ownBlock=some g
def Az0 (bo:Nat)(A:World)(g:Nat):Prop:=PtB bo A g/\∃ c f,A.heap[g]?=some (.cells c 131 f)
def oT0 (bo:Nat)(A:World):Prop:=∃ v:Value,A.heap[bo]?=some (.cells #[v] 124)
structure KpO (m bo:Nat)(A C:World):Prop where
 os:C.os=A.os
 tape:C.tape=A.tape
 output:C.output=A.output
 size:A.heap.size<=C.heap.size
 keep:∀ b o,A.heap[b]?=some o->b≠bo->¬ Az0 bo A b->(b<m\/o.isCells=true)->C.heap[b]?=some o
 pt:∀ g,PtB bo C g->A.heap.size<=g\/PtB bo A g
 box:oT0 bo A->oT0 bo C
theorem KpO.trans (h:KpO m bo A C)(k:KpO m bo C D):KpO m bo A D:=by
 refine⟨k.os.trans h.os,k.tape.trans h.tape,k.output.trans h.output,nT h.size k.size,fun b o hb hne hno hc=>?_,fun g hg=>?_,fun hb=>k.box (h.box hb)⟩
 ·have h1:=h.keep b o hb hne hno hc;refine k.keep b o h1 hne (fun⟨hp,c,f,hcf⟩=>?_) hc;rcases h.pt b hp with hp|hp
  ·have:=loh hb;omega
  ·rw[h1] at hcf;cases hcf;exact hno ⟨hp,c,f,hb⟩
 ·rcases k.pt g hg with h1|h1
  ·exact .inl (nT h.size h1)
  ·exact h.pt g h1
structure Acc (bo:Nat)(A C:World):Prop where
 size:A.heap.size<=C.heap.size
 keep:∀ b c t f,A.heap[b]?=some (.cells c t f)->t ∉ 131 :: em0->b≠bo->C.heap[b]?=some (.cells c t f)
 pt:∀ g,PtB bo C g->A.heap.size<=g\/PtB bo A g
 box:oT0 bo C
theorem Acc.refl (h:oT0 bo A):Acc bo A A:=⟨nR _,fun _ _ _ _ h _ _=>h,fun _ h=>.inr h,h⟩
theorem Acc.trans (h:Acc bo A C)(k:Acc bo C D):Acc bo A D:=
 ⟨nT h.size k.size,fun b c t f hb ht hne=>k.keep b c t f (h.keep b c t f hb ht hne) ht hne,fun g hg=>(k.pt g hg).elim (fun h1=>.inl (nT h.size h1)) (h.pt g),k.box⟩
theorem KpO.acc (h:KpO m bo A C)(hb:oT0 bo A):Acc bo A C:=
 ⟨h.size,fun b c t f hc ht hne=>h.keep b _ hc hne (fun⟨_,c',f',e⟩=>by rw[hc] at e;cases e;exact ht sP) (.inr rfl),h.pt,h.box hb⟩
variable {B:Blk}
theorem FrB.acc (h:FrB B A C)(hb:oT0 bo A):Acc bo A C:=by
 obtain⟨v,hv⟩:=hb;have hc:=h.heap hv dC;refine⟨h.size,fun b c t f hc ht hne=>h.heap hc (fun hm=>ht (lM9 _ hm)),fun g ⟨v',hv',ho⟩=>?_,⟨v,hc⟩⟩;rw[hc] at hv';cases hv';exact .inr ⟨v,hv,ho⟩
theorem ax0.frG {x:Sto}(h:ax0 w B x)(F:Fr S w w')(h1:∀ r,¬ S (B.at_ r))(h4:∀ g c' t',t' ∈ 5 :: em0->w.heap[g]?=some (.cells c' t')->¬ S g):ax0 w' B x:=by
 refine⟨F.heap h.s (h1 .s),h.dev.fr F (h1 .d) (h1 .bf) (h1 .bq) fun g c' t' h5 hg=>h4 g c' t' (by rcases h5 with rfl|rfl|rfl <;> decide) hg,h.bits.fr F (h1 .bs) (h1 .bw),h.fr.fr F (h1 .fr),h.dy.fr F (h1 .dy),h.de.fr F (h1 .de),h.mem.fr F (h1 .bc) (h1 .bp) (h1 .bm),fun k p hp=>?_,h.ne,h.ge,h.rg,h.inr⟩;obtain⟨bs,hb,hl⟩:=h.load k p hp;exact⟨bs,hb.fr F fun b c hc=>h4 b c 5 dC hc,hl⟩
variable {y:Cs}{P:aC0}
theorem aw0.frG (h:aw0 w B y P a N)(F:Fr S w w')(h1:∀ r,¬ S (B.at_ r))(h4:∀ g c' t',t' ∈ 5 :: em0->w.heap[g]?=some (.cells c' t')->¬ S g)(h0:¬ S 0):aw0 w' B y P a N:=by
 obtain⟨⟨x,c,hS,hy,hi⟩,hT,hb⟩:=h;exact⟨⟨x,c,hS.frG F h1 h4,hy,{ hi with holds:=⟨hi.holds.ok,fun k q hq=>by obtain⟨st,bs,e1,e2,e3,e4⟩:=hi.holds.mem k q hq;exact⟨st,bs,e1,e2,e3.fr F fun b c hc=>h4 b c 5 dC hc,e4⟩,hi.holds.dev⟩ }⟩,hT.fr F h0,hb⟩
theorem aw0.roles (h:aw0 w B y P a N)(r:cE0):B.at_ r<w.heap.size:=by
 obtain⟨⟨x,c,hS,hy,hi⟩,hT,hb⟩:=h;exact (hS.heaps r).2.2.1
theorem aw0.sh0 (h:aw0 w B y P a N)(r:cE0){c:Array Value}{t:TypeId}{f:Nat × Nat}(hc:w.heap[B.at_ r]?=some (.cells c t f)):t ∈ em0:=by
 obtain⟨⟨x,c',hS,hy,hi⟩,hT,hb⟩:=h;exact (hS.heaps r).2.1 c t f hc
section
variable {B:Blk}{bx bd:Nat}{y:Cs}{P:aC0}{a:Bool}{N:Nat}{x:aL0}{au0 slots:List Rf}{L:List Bp}{sp:Int}
theorem aD0.frG {S:Nat->Prop}{w w':World}(h:aD0 w B bx bd y P a N x au0 slots L sp)(F:Fr S w w')(h1:∀ r,¬ S (B.at_ r))(h4:∀ g c' t',t' ∈ 5 :: 227 :: 209 :: em0->w.heap[g]?=some (.cells c' t')->¬ S g)(h0:¬ S 0):aD0 w' B bx bd y P a N x au0 slots L sp:=
 { h with
  st:=h.st.frG F h1 (fun g c t ht hg=>h4 g c t (by simp only[lA9] at ht ⊢;rcases ht with ht|ht <;> simp[ht]) hg) h0
  idx:=F.heap h.idx (h4 bx _ 227 sP h.idx)
  dir:=F.heap h.dir (h4 bd _ 209 sP h.dir) }
theorem aD0.kpO {m bo:Nat}{A C:World}(h:aD0 A B bx bd y P a N x au0 slots L sp)(K:KpO m bo A C)(hm:∀ r,B.at_ r<m)(hbo:oT0 bo A/\0<bo)(hp:∀ g,PtB bo A g->0<g)(h0:0<m):aD0 C B bx bd y P a N x au0 slots L sp:=by
 have F:Fr (fun b=>b=bo\/Az0 bo A b\/(m<=b/\∃ o,A.heap[b]?=some o/\o.isCells=false)) A C:=
  ⟨K.os,K.tape,K.output,K.size,fun b hb hs=>by
   simp only[not_or] at hs;obtain⟨o,ho⟩:∃ o,A.heap[b]?=some o:=⟨_,mU9 hb⟩
   rw[ho];refine K.keep b o ho hs.1 hs.2.1 ?_;by_cases hbm:b<m
   ·exact .inl hbm
   ·cases hc:o.isCells with
    | true=>exact .inr rfl
    | false=>exact absurd ⟨oM,o,ho,hc⟩ hs.2.2⟩
 obtain⟨⟨v,hv⟩,hbo0⟩:=hbo;refine h.frG F (fun r hs=>?_) (fun g c' t' ht hg hs=>?_) (fun hs=>?_)
 ·rcases hs with e|⟨-,c,f,hc⟩|⟨hb,-⟩
  ·rw[<- e] at hv;exact absurd (h.st.sh0 r hv) dC
  ·exact absurd (h.st.sh0 r hc) dC
  ·have:=hm r;omega
 ·rcases hs with e|⟨-,c,f,hc⟩|⟨hb,o,ho,hc⟩
  ·rw[e,hv] at hg;cases hg;exact absurd ht dC
  ·rw[hg] at hc;cases hc;exact absurd ht dC
  ·rw[hg] at ho;cases ho;cases hc
 ·rcases hs with e|⟨hp0,-⟩|⟨hb,-⟩
  ·omega
  ·have:=hp 0 hp0;omega
  ·omega
theorem aD0.AC0 {m:Nat}{W:World}{l:Nat}{o o':Obj}(h:aD0 W B bx bd y P a N x au0 slots L sp)(hl:m<=l)(hm:∀ r,B.at_ r<m)(h0:0<m)(ho:W.heap[l]?=some o)(hc:o.isCells=false):aD0 (W.putObj l o') B bx bd y P a N x au0 slots L sp:=
 h.frG (S:=fun b=>b=l) ((Fr.refl (fun b=>b=l) W).putObj (fun _=>rfl) o') (fun r e=>by have:=hm r;omega) (fun g c t _ hg e=>by rw[e,ho] at hg;cases hg;cases hc) oM
