/- A pack of texts. Conditions: those that each names. -/
import Derived.Test.YtgdhaaokolfdoaaGreatDoorNAQ
set_option maxHeartbeats 16000000
set_option maxRecDepth 100000
set_option linter.all false
namespace Go.Proofs.YtgdhaaokolfdoaaGreatDoor
section
open Go.RowKit Go.Sg CP SF
abbrev btC (e:Bt):List Value:=[.int .u64 e.hash,.int .i64 e.rg,.int .i64 e.at_,.int .i64 e.sz]
abbrev btV (e:Bt):Value:=.agg #[.int .u64 e.hash,.int .i64 e.rg,.int .i64 e.at_,.int .i64 e.sz]
abbrev bkV (d p:Int)(v:Value):Value:=.agg #[.int .i64 d,.int .i64 p,v]
abbrev bm0 (w:World)(base:Nat)(v:Value)(es:List Bt):Prop:=w.ownsRow base 118 4 v es.length (es.flatMap btC)
theorem bl0 (l:List Bt):(l.flatMap btC).length=l.length*4:=by
 induction l with
 | nil=>rfl
 | cons x l ih=>simp only[lj9,lA,ih,lC];simp;omega
theorem vV0 (l:List Bt):∀ (i:Nat) (x:Bt),l[i]?=some x->(l.flatMap btC)[i*4]?=some (.int .u64 x.hash)/\(l.flatMap btC)[i*4+1]?=some (.int .i64 x.rg)/\(l.flatMap btC)[i*4+2]?=some (.int .i64 x.at_)/\(l.flatMap btC)[i*4+3]?=some (.int .i64 x.sz):=by
 induction l with
 | nil=>intro i x h;simp at h
 | cons y l ih =>
  intro i x h;cases i with
  | zero=>simp at h;subst h;simp[btC]
  | succ i =>
   rw[gS] at h;have:=ih i x h;rw[show (i+1)*4=i*4+4 by omega];simpa[lj9,btC] using this
variable {w:World}{b base e h j k n size y:Nat}{x:Bt}{v x0 x1 x2:Value}{t:TypeId}{xs:List Value}
theorem bG0 {c:Nat}{a:Option Addr}{l:List Bt}(h:bm0 w base (.slice a l.length c) l)(hx:l[k]?=some x) :
  ∃ g,a=some ⟨g,0,none⟩/\g<w.heap.size/\w.cell? ⟨g,k*4,none⟩=some (.int .u64 x.hash)/\w.cell? ⟨g,k*4+1,none⟩=some (.int .i64 x.rg)/\w.cell? ⟨g,k*4+2,none⟩=some (.int .i64 x.at_)/\w.cell? ⟨g,k*4+3,none⟩=some (.int .i64 x.sz):=by
 obtain⟨f0,f1,f2,f3⟩:=vV0 l k x hx;obtain⟨g,e,hg,h0⟩:=al0 h f0;obtain⟨g1,e1,_,h1⟩:=al0 h f1;obtain⟨g2,e2,_,h2⟩:=al0 h f2;obtain⟨g3,e3,_,h3⟩:=al0 h f3;rw[e] at e1 e2 e3;cases e1;cases e2;cases e3;exact⟨g,e,hg,h0,h1,h2,h3⟩
def plI (es:List Bt)(h:Nat):Nat:=(es.takeWhile fun e=>decide (e.hash<h)).length
def hasB (es:List Bt)(h:Nat):Bool:=es.any fun e=>decide (e.hash=h)
def aa0 (es:List Bt):Prop:=es.Pairwise fun x y=>x.hash<y.hash
theorem ot0 (es:List Bt)(h:Nat):plI es h<=es.length:=(List.takeWhile_prefix _).length_le
variable {es:List Bt}
theorem ik0 (hs:aa0 es)(hx:es[k]?=some x):k<plI es h↔x.hash<h:=by
 induction es generalizing k with
 | nil=>simp at hx
 | cons e es ih =>
  have hs':aa0 es:=(na9.1 hs).2;have h1:=(na9.1 hs).1;unfold plI;rw[List.takeWhile_cons];cases k with
  | zero =>
   simp at hx;subst hx;by_cases hh:e.hash<h
   ·simp[hh]
   ·simp[hh]
  | succ k =>
   rw[gS] at hx;by_cases hh:e.hash<h
   ·simp only[hh,decide_true,if_true,lC,Nat.add_lt_add_iff_right];exact ih hs' hx
   ·have:=h1 x (gM hx);simp only[hh,decide_false,lI9,if_false,lz9,Nat.not_lt_zero,false_iff];omega
theorem vJ0 (hs:aa0 es)(hj:j<=es.length)(h1:∀ (k:Nat) (x:Bt),k<j->es[k]?=some x->x.hash<h)(h2:∀ (k:Nat) (x:Bt),j<=k->es[k]?=some x->¬ x.hash<h):plI es h=j:=by
 have hle:=ot0 es h;rcases Nat.lt_trichotomy (plI es h) j with hlt|rfl|hlt
 ·obtain⟨x,hx⟩:∃ x,es[plI es h]?=some x:=⟨_,gE oM⟩
  have:=(ik0 hs hx).2 (h1 _ x hlt hx);omega
 ·rfl
 ·obtain⟨x,hx⟩:∃ x,es[j]?=some x:=⟨_,gE oM⟩
  exact absurd ((ik0 hs hx).1 hlt) (h2 j x (nR _) hx)
theorem bB0 (hs:aa0 es):hasB es h=true↔∃ x,es[plI es h]?=some x/\x.hash=h:=by
 unfold hasB;rw[md9];constructor
 ·rintro⟨x,hx,he⟩;simp at he;obtain⟨k,hk,hkx⟩:=mW9 hx;have hx':es[k]?=some x:=by rw[gE hk,hkx]
  have e:plI es h=k:=vJ0 hs oM (fun j y hj hy=>by
   have:=lO9.1 hs j k oM hk hj;rw[gE oM] at hy;cases hy;rw[hkx] at this;omega) (fun j y hj hy=>by
   rcases lV9 k j with hlt|hge
   ·have hjl:=(gI.1 hy).1;have:=lO9.1 hs k j hk hjl hlt;rw[gE hjl] at hy;cases hy;rw[hkx] at this;omega
   ·obtain rfl:j=k:=by omega
    rw[hx'] at hy;cases hy;omega)
  rw[e];exact⟨x,hx',he⟩
 ·rintro⟨x,hx,he⟩;exact⟨x,gM hx,by simpa using he⟩
theorem iV0 (hs:aa0 es){i:Nat}{y:Bt}(hx:es[i]?=some x)(hy:es[j]?=some y)(h:i<j):x.hash<y.hash:=by
 obtain⟨h1,e1⟩:=gI.1 hx;obtain⟨h2,e2⟩:=gI.1 hy;have:=lO9.1 hs i j h1 h2 h;rw[e1,e2] at this;exact this
def kV0 (b:Bool)(w:World)(e:Ending)(w':World):Prop:=e = .returned (.bool b)/\w=w'
theorem dq0 (n m:Int)(w:World):Calls Tryz.prog 241 #[.int .i64 n,.int .i64 m] w (kV0 (decide (0<=n) && decide (n<=m)) w):=by
 by_cases h1:0<=n
 ·have d1:decide ((0:Int)<=n)=true:=decide_eq_true h1;by_cases h2:n<=m
  ·have d2:decide (n<=m)=true:=decide_eq_true h2;rw[d1,d2];go_enter Tryz.func241,Tryz.ntmps241;go_wp2_with fail
   go_ret;exact⟨rfl,rfl⟩
  ·have d2:decide (n<=m)=false:=decide_eq_false h2;rw[d1,d2];go_enter Tryz.func241,Tryz.ntmps241;go_wp2_with fail
   go_ret;exact⟨rfl,rfl⟩
 ·have d1:decide ((0:Int)<=n)=false:=decide_eq_false h1;rw[d1];go_enter Tryz.func241,Tryz.ntmps241;go_wp2_with fail
  go_ret;exact⟨rfl,rfl⟩
theorem oz0 (n:Nat)(w:World):Calls Tryz.prog 277 #[.int .u64 n] w (kV0 false w):=by
 go_enter Tryz.func277,Tryz.ntmps277;go_wp2_with fail
 go_ret;exact⟨rfl,rfl⟩
def oI0 (x y:Nat):Int:=if x<y then -1 else if y<x then 1 else 0
theorem tT0 (x y:Nat)(w:World):Calls Tryz.prog 252 #[.int .u64 x,.int .u64 y] w (tl0 (oI0 x y) w):=by
 have key:(decide (x<y)=true/\oI0 x y = -1)\/(decide (x<y)=false/\decide (y<x)=true/\oI0 x y=1)\/(decide (x<y)=false/\decide (y<x)=false/\oI0 x y=0):=by
  unfold oI0;by_cases h1:x<y
  ·left;rw[if_pos h1];exact⟨by simp;omega,rfl⟩
  ·right;by_cases h2:y<x
   ·left;rw[if_neg h1,if_pos h2];exact⟨by simp;omega,by simp;omega,rfl⟩
   ·right;rw[if_neg h1,if_neg h2];exact⟨by simp;omega,by simp;omega,rfl⟩
 rcases key with⟨d1,e⟩|⟨d1,d2,e⟩|⟨d1,d2,e⟩
 all_goals
  rw[e];clear e;go_enter Tryz.func252,Tryz.ntmps252;go_wp2_with fail
  refine (oz0 x w).mono ?_;rintro e _ ⟨rfl,rfl⟩;go_wp2_with fail
  refine (oz0 y w).mono ?_;rintro e _ ⟨rfl,rfl⟩;go_wp2_with fail
  go_ret;exact⟨rfl,rfl⟩
def ec0 (v:Value)(w:World)(e:Ending)(w':World):Prop:=e = .returned v/\Fq w w'
theorem jQ0 (x:Bt)(h:Nat)(w:World):Calls Tryz.prog 251 #[btV x,.int .u64 h] w (ec0 (.int .i64 (oI0 x.hash h)) w):=by
 obtain⟨w1,hw1⟩:=eX (w.alloc (.cells #[.int .u64 x.hash,.int .i64 x.rg,.int .i64 x.at_,.int .i64 x.sz] 118))
 have b1:w1.heap[w.heap.size]?=some (.cells #[.int .u64 x.hash,.int .i64 x.rg,.int .i64 x.at_,.int .i64 x.sz] 118):=by rw[<- hw1];exact han _ _
 have HF:=hid (show Fq w w1 by rw[<- hw1];exact (Fr.refl _ _).alloc _);have c0:w1.cell? ⟨w.heap.size,0,none⟩=some (.int .u64 x.hash):=by simpa using coh b1 0
 have HW:=hid hw1;clear hw1 b1;go_enter Tryz.func251,Tryz.ntmps251;go_upto_region 1 with fail
 rw[HW.out];go_wp2_with fail
 refine (tT0 x.hash h w1).mono ?_;rintro e _ ⟨rfl,rfl⟩;go_wp2_with fail
 go_ret;exact⟨rfl,HF.out⟩
def qo0 (es:List Bt)(h:Nat)(w:World)(e:Ending)(w':World):Prop:=e = .returned (.tuple #[.int .i64 (plI es h),.bool (hasB es h)])/\Fq w w'
theorem qR0 {x:Nat}:decide (oI0 x y<0)=decide (x<y):=by
 unfold oI0;by_cases h1:x<y
 ·simp[h1]
 ·by_cases h2:y<x <;> simp[h1,h2]
theorem wi0 {x:Nat}:decide (oI0 x y=0)=decide (x=y):=by
 unfold oI0;by_cases h1:x<y
 ·have:¬ x=y:=by omega
  simp[h1,this]
 ·by_cases h2:y<x
  ·have:¬ x=y:=by omega
   simp[h1,h2,this]
  ·have:x=y:=by omega
   simp[this]
theorem sZ0 (hE:bm0 w 0 v es)(hs:aa0 es)(hl:es.length<=255)(h:Nat) :
  Calls Tryz.prog 250 #[v,.int .u64 h,.func (.func 251) #[] #[]] w (qo0 es h w):=by
 obtain⟨va,vc,rfl,-,-,-,-⟩:=oSl hE;obtain⟨n,hn⟩:=eX es.length
 have hn9:n<=255:=oM
 have HE:=hid hE;have HN:=hid hn;have HS:=hid hs;rw[hn];clear hE hn hs hl;go_enter Tryz.func250,Tryz.ntmps250;go_wp2_with fail
 go_loopw [9,10] (fun iv jv wr=>∃ i j:Nat,iv = .int .i64 i/\jv = .int .i64 j/\i<=j/\j<=n/\(∀ (k:Nat) (x:Bt),k<i->es[k]?=some x->x.hash<h)/\(∀ (k:Nat) (x:Bt),j<=k->es[k]?=some x->¬ x.hash<h)/\Fq w wr) (fun iv jv _=>(intOf jv).toNat-(intOf iv).toNat)
 case atStart=>exact⟨0,n,rfl,rfl,la9 _,nR _,fun k x hk=>oM,fun k x hk hx=>by have:=(gI.1 hx).1;rw[HN.out] at this;omega,Fr.refl _ _⟩
 case round =>
  obtain⟨i,j,rfl,rfl,hij,hj,h1,h2,hF⟩:=hrel;have H12:=hi2 h1 (aI h2 hF);clear h1 h2 hF;by_cases hlt:i<j
  ·have hd:decide (i<j)=true:=by simp[hlt]
   obtain⟨m,hm⟩:∃ m:Nat,(i+j)/2=m:=⟨_,rfl⟩
   have hmi:i<=m/\m<j:=oM
   obtain⟨x,hx⟩:∃ x,es[m]?=some x:=⟨_,gE (by rw[HN.out];omega)⟩
   have hmI:((i:Int)+(j:Int))/2=(m:Int):=oM
   have hmn:(m:Int)<(n:Int):=oM
   obtain⟨g,rfl,hg,u0,u1,u2,u3⟩:=bG0 (oN HE.out H12.out.2.2) hx;have HX:=hid hx;have HM:=hid hm;clear hx hm;by_cases hlx:x.hash<h
   ·have hdc:decide (oI0 x.hash h<0)=true:=(by rw[qR0];simp[hlx]);have HC:=hid hlx;clear hlx;go_wp2_with fail
    refine (jQ0 x h wr).mono ?_;rintro e w2 ⟨rfl,F2⟩;have HF2:=hid F2;clear F2;go_wp2_with fail
    go_roundw;case rel =>
     obtain⟨h1,h2,hF⟩:=H12.out;refine⟨m+1,j,by go_num,rfl,oM,hj,fun k y hk hy=>?_,h2,hF.trans HF2.out nI⟩;rcases lV9 k m with hkm|hkm
     ·exact Nat.lt_trans (iV0 HS.out hy HX.out hkm) HC.out
     ·obtain rfl:k=m:=by omega
      rw[HX.out] at hy;cases hy;exact HC.out
    case measure=>simp[intOf];omega
   ·have hdc:decide (oI0 x.hash h<0)=false:=(by rw[qR0];simp;omega);have HC:=hid hlx;clear hlx;go_wp2_with fail
    refine (jQ0 x h wr).mono ?_;rintro e w2 ⟨rfl,F2⟩;have HF2:=hid F2;clear F2;go_wp2_with fail
    go_roundw;case rel =>
     obtain⟨h1,h2,hF⟩:=H12.out;refine⟨i,m,rfl,rfl,oM,oM,h1,fun k y hk hy=>?_,hF.trans HF2.out nI⟩;rcases lV9 m k with hkm|hkm
     ·have:=iV0 HS.out HX.out hy hkm;have:=HC.out;omega
     ·obtain rfl:k=m:=by omega
      rw[HX.out] at hy;cases hy;exact HC.out
    case measure=>simp[intOf];omega
  ·obtain rfl:i=j:=by omega
   have hd:decide (i<i)=false:=by simp
   have hp:plI es h=i:=vJ0 HS.out (by rw[HN.out];exact hj) H12.out.1 H12.out.2.1;by_cases hin:i<n
   ·have hd2:decide (i<n)=true:=(by simp[hin]);obtain⟨x,hx⟩:∃ x,es[i]?=some x:=⟨_,gE (by rw[HN.out];omega)⟩
    have hmn:(i:Int)<(n:Int):=oM;obtain⟨g,rfl,hg,u0,u1,u2,u3⟩:=bG0 (oN HE.out H12.out.2.2) hx;have hb:hasB es h=decide (x.hash=h):=by
     rw[Bool.eq_iff_iff,bB0 HS.out,hp,hx];simp
    have HP:=hi2 hp hb;obtain⟨bb,hbb⟩:=eX (decide (x.hash=h))
    have hce:(oI0 x.hash h == 0)=bb:=(by rw[<- hbb,<- wi0];rfl);have HBB:=hid hbb;clear hx hp hb hbb;go_wp2_with fail
    refine (jQ0 x h wr).mono ?_;rintro e w2 ⟨rfl,F2⟩;have HF2:=hid F2;clear F2;go_wp2_with fail
    go_ret2;exact⟨by rw[HP.out.1,HP.out.2,<- HBB.out];rfl,H12.out.2.2.trans HF2.out nI⟩
   ·have hd2:decide (i<n)=false:=sO;have hb:hasB es h=false:=by
     rw[Bool.eq_false_iff];intro hb;obtain⟨x,hx,-⟩:=(bB0 HS.out).1 hb;rw[hp] at hx;have:=(gI.1 hx).1;rw[HN.out] at this;omega
    have HP:=hi2 hp hb;clear hp hb;go_wp2_with fail
    go_ret2;exact⟨by rw[HP.out.1,HP.out.2];rfl,H12.out.2.2⟩
theorem kn0 (hE:bm0 w 0 v es)(hs:aa0 es)(hl:es.length<=255)(d p:Int)(h:Nat) :
  Calls Tryz.prog 199 #[bkV d p v,.int .u64 h] w (qo0 es h w):=by
 obtain⟨w1,hw1⟩:=eX (w.alloc (.cells #[.int .i64 d,.int .i64 p,v] 129))
 have b1:w1.heap[w.heap.size]?=some (.cells #[.int .i64 d,.int .i64 p,v] 129):=by rw[<- hw1];exact han _ _
 have F1:Fq w w1:=by rw[<- hw1];exact (Fr.refl _ _).alloc _
 have HF:=hid F1;have c2:w1.cell? ⟨w.heap.size,2,none⟩=some v:=by simpa using coh b1 2
 have HS:=hid (sZ0 (oN hE F1) hs hl h);have HW:=hid hw1;clear hw1 b1 F1 hE hs hl;go_enter Tryz.func199,Tryz.ntmps199;go_upto_region 1 with fail
 rw[HW.out];go_wp2_with fail
 refine HS.out.mono ?_;rintro e w2 ⟨rfl,F2⟩;have HF2:=hid F2;clear F2;go_wp2_with fail
 go_ret2;exact⟨rfl,HF.out.trans HF2.out nI⟩
theorem Tryz.eo0:(Tryz.prog.info? 118).map (fun i=>(i.zero,i.size,i.bytes))=some (some (.agg #[.int .u64 0,.int .i64 0,.int .i64 0,.int .i64 0]),4,32):=by kernel_rfl
theorem cells3 (h:w.heap[b]?=some (.cells #[x0,x1,x2] t)) :
  w.cell? ⟨b,0,none⟩=some x0/\w.cell? ⟨b,1,none⟩=some x1/\w.cell? ⟨b,2,none⟩=some x2/\(∀ o,w.frozen? ⟨b,o,none⟩=false)/\b<w.heap.size:=
 ⟨by simpa using coh h 0,by simpa using coh h 1,by simpa using coh h 2,fun o=>foh h o,loh h⟩
theorem iS0 (d p:Int)(va:Option Addr)(vn vc:Nat)(ua:Option Addr)(un uc:Nat)(w:World):Calls Tryz.prog 195 #[bkV d p (.slice va vn vc),.slice ua un uc] w (ec0 (bkV d p (.slice ua un uc)) w):=by
 obtain⟨w1,hw1⟩:=eX ((w.alloc (.cells #[.int .i64 d,.int .i64 p,.slice va vn vc] 129)).alloc (.cells #[.int .i64 0,.int .i64 0,.slice none 0 0] 129))
 obtain⟨b0,b1,F1⟩:=ai0 hw1;obtain⟨x0,x1,x2,xz,xl⟩:=cells3 b0;obtain⟨y0,y1,y2,yz,yl⟩:=cells3 b1;have HF:=hid F1;have HW:=hid hw1;have hs:w1.heap.size=w.heap.size+2:=by rw[<- hw1];simp
 have HS:=hid hs;clear hw1 b0 b1 F1 hs;go_enter Tryz.func195,Tryz.ntmps195;go_upto_region 1 with fail
 rw[HW.out];go_wp2_with fail
 refine bodyPost_ret (v:=bkV d p (.slice ua un uc)) sR rfl ⟨rfl,?_⟩;exact ((HF.out.an0 oM _).an0 oM _).an0 oM _
def zE0 (es:List Bt)(w:World)(e:Ending)(w':World):Prop:=∃ v,e = .returned v/\bm0 w' w.heap.size v es/\Fq w w'
theorem iC0 (hE:bm0 w 0 v es)(hl:es.length<=255):Calls Tryz.prog 200 #[v] w (zE0 es w):=by
 obtain⟨i0,hi0,hz0,hz1,hz2⟩:=info_parts Tryz.eo0;obtain⟨va,vc,rfl,-,-,hnil,-⟩:=oSl hE;have q127:∀ (w:World) (a:Option Addr) (n c n' c':Nat),(binOp .eql 127 (.slice a n c) (.slice none n' c')).run Tryz.prog w = .ok (.bool a.isNone) w:=fun w a n c n' c'=>Lib.run_eql_slice_nil w _ _ a n c n' c' Tryz.underlying127
 obtain⟨n,hn⟩:=eX es.length
 have hn9:n<=255:=oM
 have HE:=hid hE;have HN:=hid hn;have HSr:=hid (fun W (F:Fq w W)=>il0 (oN hE F));cases va with
 | none =>
  have h0:n=0:=by rw[<- hn];exact (hnil rfl).1
  have he:es=[]:=lH9 (by rw[hn];exact h0);have hc:vc=0:=(hnil rfl).2;subst h0 hc;rw[hn];have HEm:=hid he;clear hE hn hnil hl he;go_enter Tryz.func200,Tryz.ntmps200;go_wp2_with fail
  go_ret;exact⟨_,rfl,by rw[HEm.out];exact World.ownsRow_nil _ _ _ _,Fr.refl _ _⟩
 | some ad =>
  rw[hn];clear hE hn hnil hl;go_enter Tryz.func200,Tryz.ntmps200;go_wp2_with (at_builtin;refine ag0 rfl (.tmp 5) (.tmp 6) 127 rfl w.heap.size 118 i0 _ 4 32 Tryz.underlying127 hi0 hz0 hz1 hz2 rfl dC _ _ _ rfl (gl0 _ _ (nR _) _ _ _ (by simp[go_sem])) (.slice (some ad) n vc) n (es.flatMap btC) rfl (by have:=HSr.out _ ((Fr.refl _ _).alloc (.cells #[] 118));rw[HN.out] at this;exact this) (by rw[bl0,HN.out]) (by intro u hu;obtain⟨x,_,hx⟩:=mf9.1 hu;simp[btC] at hx;rcases hx with rfl|rfl|rfl|rfl <;> rfl) (by simp[maxLen];omega) oM sP ?_)
  intro v3 W3 hown3 hg3 hne3;try simp only[le9,lp9] at hown3
  have F3:Fq w W3:=((Fr.refl (fun b=>b=w.heap.size) _).alloc _).trans (Fr.of_grownBy hg3) (fun b _ h=>h) |>.mono (fun b hb h=>oM)
  have H3:=hi2 (show bm0 W3 w.heap.size v3 es by unfold bm0;rw[HN.out];exact hown3) F3;clear hown3 hg3 hne3 F3;go_wp2_with fail
  go_ret;exact⟨_,rfl,H3.out.1,H3.out.2⟩
def to0:Option Bt->Value
 | none=>.agg #[.int .i64 0,.int .i64 0,.int .i64 0]
 | some e=>.agg #[.int .i64 e.rg,.int .i64 e.at_,.int .i64 e.sz]
def atB (es:List Bt)(h:Nat):Option Bt:=if hasB es h=true then es[plI es h]? else none
def zI0 (es:List Bt)(h:Nat)(w:World)(e:Ending)(w':World):Prop:=e = .returned (.tuple #[to0 (atB es h),.bool (hasB es h)])/\Fq w w'
theorem find_ok (hE:bm0 w 0 v es)(hs:aa0 es)(hl:es.length<=255)(d p:Int)(h:Nat) :
  Calls Tryz.prog 138 #[bkV d p v,.int .u64 h] w (zI0 es h w):=by
 obtain⟨va,vc,rfl,-,-,-,-⟩:=oSl hE;obtain⟨n,hn⟩:=eX es.length
 obtain⟨w1,hw1⟩:=eX ((w.alloc (.cells #[.int .i64 d,.int .i64 p,.slice va n vc] 129)).alloc (.cells #[.int .i64 0,.int .i64 0,.int .i64 0] 116))
 obtain⟨b0,b1,F1⟩:=ai0 hw1;have HB:=hid (fun W (F:Fq w1 W)=>aI (cells3 (F.heap b0 id)) (cells3 (F.heap b1 id)));have HPl:=hid (kn0 (oN hE F1) hs hl d p h);have HE:=hid (oN hE F1);have HF1:=hid F1;have HN:=hid hn;have HS:=hid hs;have hsz:w1.heap.size=w.heap.size+2:=by rw[<- hw1];simp
 have HSz:=hid hsz;obtain⟨⟨x0,x1,x2,xz,xl⟩,⟨y0,y1,y2,yz,yl⟩⟩:=HB.out _ (Fr.refl _ _);have HW:=hid hw1;rw[hn] at HPl ⊢;clear hw1 b0 b1 F1 hE hs hl hn hsz;go_enter Tryz.func138,Tryz.ntmps138;go_upto_region 1 with fail
 rw[HW.out];go_wp2_with fail
 refine HPl.out.mono ?_;rintro e w2 ⟨rfl,F2⟩;have HF2:=hid F2;clear F2 x0 x1 x2 xz xl y0 y1 y2 yz yl;obtain⟨⟨x0,x1,x2,xz,xl⟩,⟨y0,y1,y2,yz,yl⟩⟩:=HB.out _ HF2.out;cases hb:hasB es h with
 | false =>
  have HH:=hid hb;clear hb;go_wp2_with fail
  refine bodyPost_ret (v:=.tuple #[.agg #[.int .i64 0,.int .i64 0,.int .i64 0],.bool false]) sR rfl ⟨?_,?_⟩
  ·unfold atB;rw[HH.out];rfl
  ·exact ((((HF1.out.trans HF2.out nI)).an0 oM _).an0 oM _).an0 oM _
 | true =>
  obtain⟨x,hx,hxh⟩:=(bB0 HS.out).1 hb;obtain⟨g,rfl,hg,u0,u1,u2,u3⟩:=bG0 (oN HE.out HF2.out) hx;have hpl:plI es h<n:=by rw[<- HN.out];exact (gI.1 hx).1
  obtain⟨q,hq⟩:=eX (plI es h)
  rw[hq] at hpl u0 u1 u2 u3;have hqi:(q:Int)<(n:Int):=oM
  have HX:=hi2 hb (aI hx hq);rw[hq];clear hb hx hxh hq;go_wp2_with fail
  refine bodyPost_ret (v:=.tuple #[.agg #[.int .i64 x.rg,.int .i64 x.at_,.int .i64 x.sz],.bool true]) sR rfl ⟨?_,?_⟩
  ·unfold atB;rw[HX.out.1,if_pos rfl,HX.out.2.1];rfl
  ·exact ((((HF1.out.trans HF2.out nI)).an0 oM _).an0 oM _).an0 oM _
def lA0 (b0:Nat)(f:Bt->Bool)(es:List Bt)(w0:World)(v1 v2:Value)(w:World):Prop:=
 (bm0 w b0 v1 (es.filter f)/\bm0 w b0 v2 (es.filter fun x=>!f x))/\(∀ g,v1.ownBlock=some g->v2.ownBlock≠some g)/\Fq w0 w
def yj0 (f:Bt->Bool)(es:List Bt)(w:World)(e:Ending)(w':World):Prop:=∃ v1 v2,e = .returned (.tuple #[v1,v2])/\lA0 w.heap.size f es w v1 v2 w'
theorem ah0 {x3:Value}(h:w.heap[b]?=some (.cells #[x0,x1,x2,x3] t)) :
  w.cell? ⟨b,0,none⟩=some x0/\w.cell? ⟨b,1,none⟩=some x1/\w.cell? ⟨b,2,none⟩=some x2/\w.cell? ⟨b,3,none⟩=some x3/\(∀ o,w.frozen? ⟨b,o,none⟩=false)/\b<w.heap.size:=
 ⟨by simpa using coh h 0,by simpa using coh h 1,by simpa using coh h 2,by simpa using coh h 3,fun o=>foh h o,loh h⟩
theorem aW0 {g:Nat}(h:w.ownsRow b e size v n xs)(hv:v.ownBlock=some g):b<=g/\g<w.heap.size:=by
 obtain⟨_,⟨h0,_⟩|⟨g',cap',cur',h1,hb,hg',_⟩⟩:=h
 ·rw[h0] at hv;cases hv
 ·rw[h1] at hv;have e':g'=g:=Option.some.inj hv;subst e';exact⟨hb,loh hg'⟩
theorem aS0 {S:Nat->Prop}{w':World}(h:w.ownsRow base e size v n xs)(F:Fr S w w')(hS:∀ g,v.ownBlock=some g->¬ S g):w'.ownsRow base e size v n xs:=by
 obtain⟨hl,h0|⟨g,cap,cur,hv,hb,hg,r⟩⟩:=h
 ·exact⟨hl,.inl h0⟩
 ·exact⟨hl,.inr ⟨g,cap,cur,hv,hb,F.heap hg (hS g (by rw[hv];rfl)),r⟩⟩
theorem eK0 {b0:Nat}{w0 w1:World}{v1 v2 v3:Value}{l1 l2:List Bt}(h1:bm0 w b0 v1 l1)(h2:bm0 w b0 v2 l2)(hd:∀ g,v1.ownBlock=some g->v2.ownBlock≠some g)(F:Fq w0 w)(hb:w0.heap.size<=b0)(o:Obj)
  (hg:(w.alloc o).grownBy w1 v1.ownBlock) (hat:v3.ownBlock=v1.ownBlock\/v3.ownBlock=some (w.alloc o).heap.size):bm0 w1 b0 v2 l2/\(∀ g,v3.ownBlock=some g->v2.ownBlock≠some g)/\Fq w0 w1:=by
 have F1:Fr (fun b=>v1.ownBlock=some b) (w.alloc o) w1:=⟨hg.os,hg.tape,hg.output,hg.size,fun b hb hn=>hg.block b hb (fun e=>hn e.symm)⟩;have FA:Fq w (w.alloc o):=(Fr.refl _ _).alloc _;refine⟨aS0 (oN h2 FA) F1 (fun g e2 e1=>hd g e1 e2),fun g hg3 hg2=>?_,(F.trans FA nI).trans F1 (fun b hb' hs=>?_)⟩
 ·rcases hat with hat|hat
  ·exact hd g (by rw[<- hat];exact hg3) hg2
  ·rw[hg3] at hat;have e:=Option.some.inj hat;have:=(aW0 h2 hg2).2;simp at e;omega
 ·have:=(aW0 h1 hs).1;omega
theorem lY0 (hE:bm0 w 0 v es)(hl:es.length<=255)(cap:Addr)(f:Bt->Bool)(hf:∀ (x:Bt),x ∈ es->∀ (W:World),Fq w W->Calls Tryz.prog 194 #[btV x,.pointer (some cap)] W (ec0 (.bool (f x)) W)) :
  Calls Tryz.prog 193 #[v,.func (.func 194) #[] #[.pointer (some cap)]] w (yj0 f es w):=by
 obtain⟨i0,hi0,hz0,hz1,hz2⟩:=info_parts Tryz.eo0;obtain⟨va,vc,rfl,-,-,-,-⟩:=oSl hE;obtain⟨n,hn⟩:=eX es.length
 have hn9:n<=255:=oM
 have HE:=hid hE;have HN:=hid hn;have HC:=hid hf;rw[hn];clear hE hn hl hf;go_enter Tryz.func193,Tryz.ntmps193;go_wp2_with fail
 go_loopw [4,5,10] (fun v1 v2 iv wr=>∃ k:Nat,k<=n/\iv = .int .i64 k/\lA0 w.heap.size f (es.take k) w v1 v2 wr) (fun _ _ iv _=>n-(intOf iv).toNat)
 case atStart=>exact⟨0,la9 _,rfl,⟨World.ownsRow_nil _ _ _ _,World.ownsRow_nil _ _ _ _⟩,(fun g h=>by cases h),Fr.refl _ _⟩
 case round =>
  obtain⟨k,hk,rfl,hP⟩:=hrel;have HP:=hid hP;by_cases hlt:k<n
  ·have hd:decide (k<n)=true:=by simp[hlt]
   have hki:(k:Int)<(n:Int):=oM
   obtain⟨x,hx⟩:∃ x,es[k]?=some x:=⟨_,gE (by rw[HN.out];exact hlt)⟩
   obtain⟨g,rfl,hg,u0,u1,u2,u3⟩:=bG0 (oN HE.out hP.2.2) hx;obtain⟨W,hW⟩:=eX (wr.alloc (.cells #[.int .u64 x.hash,.int .i64 x.rg,.int .i64 x.at_,.int .i64 x.sz] 118))
   have bW:W.heap[wr.heap.size]?=some (.cells #[.int .u64 x.hash,.int .i64 x.rg,.int .i64 x.at_,.int .i64 x.sz] 118):=by rw[<- hW];exact han _ _
   have HFW:=hid (show Fq wr W by rw[<- hW];exact (Fr.refl _ _).alloc _);have HX:=hid hx;have HW:=hid hW;have HBW:=hid bW;have HCx:=hid (HC.out x (gM hx) W (hP.2.2.trans HFW.out nI));clear hx hW bW hP;go_upto_region 4 with fail
   rw[HW.out];obtain⟨t0,t1,t2,t3,tz,tl⟩:=ah0 HBW.out;clear u0 u1 u2 u3;go_wp2_with fail
   refine HCx.out.mono ?_;rintro e W2 ⟨rfl,F2⟩;obtain⟨⟨h1,h2⟩,hdj,hFr⟩:=HP.out;have F02:Fq wr W2:=HFW.out.trans F2 nI;have h1':=oN h1 F02;have h2':=oN h2 F02;obtain⟨a1,c1,rfl,-,-,-,-⟩:=oSl h1';obtain⟨a2,c2,rfl,-,-,-,-⟩:=oSl h2';obtain⟨t0,t1,t2,t3,tz,tl⟩:=ah0 (F2.heap HBW.out id);have hle1:((es.take k).filter f).length<=255:=nT (lD9 _ _) (by rw[lT];omega);have hle2:((es.take k).filter (fun x=>!f x)).length<=255:=nT (lD9 _ _) (by rw[lT];omega);have hb0:w.heap.size<=W2.heap.size:=nT hFr.size F02.size;have htk:es.take (k+1)=es.take k++[x]:=by rw[lw9,HX.out];rfl
   have HT:=hid htk;have H12:=hi2 h1' (aI h2' (aI hdj (hFr.trans F02 nI)));have HO1:=hid h1';have HO2:=hid h2';have HL1:=hid hle1;have HL2:=hid hle2;clear h1 h2 h1' h2' hdj hFr F2 F02 htk hle1 hle2;cases hfx:f x with
   | true =>
    have HFX:=hid hfx;clear hfx;go_wp2_with (at_builtin;refine wpList_append_own_at _ rfl (.tmp 17) (.tmp 19) 127 rfl w.heap.size 118 i0 _ 4 32 Tryz.underlying127 hi0 hz0 hz1 hz2 rfl dC _ _ _ rfl (HO1.out.alloc _) ⟨W2.heap.size,0,none⟩ 1 1 (btC x) rfl rfl (World.news_of_block (cs:=#[.int .u64 x.hash,.int .i64 x.rg,.int .i64 x.at_,.int .i64 x.sz]) (t:=118) (fr:=(0,0)) (han _ _)) (by simp[Value.oneCell']) (by have:=HL1.out;simp only[maxLen];omega) (by have:=HL1.out;omega) sO ?_)
    intro v3 W3 hown3 hg3 hnil3 hat3;have hst:=eK0 (v3:=v3) H12.out.1 H12.out.2.1 H12.out.2.2.1 H12.out.2.2.2 (nR _) _ hg3 (by simpa using hat3);have HQ:=hid (show lA0 w.heap.size f (es.take (k+1)) w v3 (.slice a2 ((es.take k).filter (fun x=>!f x)).length c2) W3 by
     have e1:(es.take (k+1)).filter f=(es.take k).filter f++[x]:=(by rw[HT.out,lP9];simp[HFX.out]);have e2:(es.take (k+1)).filter (fun x=>!f x)=(es.take k).filter (fun x=>!f x):=(by rw[HT.out,lP9];simp[HFX.out]);refine⟨⟨?_,by rw[e2];exact hst.1⟩,hst.2.1,hst.2.2⟩;unfold bm0;rw[e1,lA,li9];simpa using hown3)
    clear hst hown3 hg3 hnil3 hat3;go_wp2_with fail
    go_roundw;case rel=>exact⟨k+1,hlt,by go_num,HQ.out⟩
    case measure=>simp[intOf];omega
   | false =>
    have HFX:=hid hfx;clear hfx;go_wp2_with (at_builtin;refine wpList_append_own_at _ rfl (.tmp 21) (.tmp 23) 127 rfl w.heap.size 118 i0 _ 4 32 Tryz.underlying127 hi0 hz0 hz1 hz2 rfl dC _ _ _ rfl (HO2.out.alloc _) ⟨W2.heap.size,0,none⟩ 1 1 (btC x) rfl rfl (World.news_of_block (cs:=#[.int .u64 x.hash,.int .i64 x.rg,.int .i64 x.at_,.int .i64 x.sz]) (t:=118) (fr:=(0,0)) (han _ _)) (by simp[Value.oneCell']) (by have:=HL2.out;simp only[maxLen];omega) (by have:=HL2.out;omega) sO ?_)
    intro v3 W3 hown3 hg3 hnil3 hat3;have hst:=eK0 (v3:=v3) H12.out.2.1 H12.out.1 (fun g e2 e1=>H12.out.2.2.1 g e1 e2) H12.out.2.2.2 (nR _) _ hg3 (by simpa using hat3);have HQ:=hid (show lA0 w.heap.size f (es.take (k+1)) w (.slice a1 ((es.take k).filter f).length c1) v3 W3 by
     have e1:(es.take (k+1)).filter f=(es.take k).filter f:=(by rw[HT.out,lP9];simp[HFX.out]);have e2:(es.take (k+1)).filter (fun x=>!f x)=(es.take k).filter (fun x=>!f x)++[x]:=(by rw[HT.out,lP9];simp[HFX.out]);refine⟨⟨by rw[e1];exact hst.1,?_⟩,(fun g e1 e2=>hst.2.1 g e2 e1),hst.2.2⟩;unfold bm0;rw[e2,lA,li9];simpa using hown3)
    clear hst hown3 hg3 hnil3 hat3;go_wp2_with fail
    go_roundw;case rel=>exact⟨k+1,hlt,by go_num,HQ.out⟩
    case measure=>simp[intOf];omega
  ·obtain rfl:k=n:=by omega
   have hd:decide (k<k)=false:=by simp
   go_wp2_with fail
   go_ret2;rw[tL (by rw[HN.out];exact nR _)] at HP;exact⟨_,_,rfl,HP.out⟩
theorem lX0 (hE:bm0 w 0 v es)(hl:es.length<=255)(cap:Addr)(f:Bt->Bool)(hf:∀ (x:Bt),x ∈ es->∀ (W:World),Fq w W->Calls Tryz.prog 247 #[btV x,.pointer (some cap)] W (ec0 (.bool (f x)) W)) :
  Calls Tryz.prog 193 #[v,.func (.func 247) #[] #[.pointer (some cap)]] w (yj0 f es w):=by
 obtain⟨i0,hi0,hz0,hz1,hz2⟩:=info_parts Tryz.eo0;obtain⟨va,vc,rfl,-,-,-,-⟩:=oSl hE;obtain⟨n,hn⟩:=eX es.length
 have hn9:n<=255:=oM
 have HE:=hid hE;have HN:=hid hn;have HC:=hid hf;rw[hn];clear hE hn hl hf;go_enter Tryz.func193,Tryz.ntmps193;go_wp2_with fail
 go_loopw [4,5,10] (fun v1 v2 iv wr=>∃ k:Nat,k<=n/\iv = .int .i64 k/\lA0 w.heap.size f (es.take k) w v1 v2 wr) (fun _ _ iv _=>n-(intOf iv).toNat)
 case atStart=>exact⟨0,la9 _,rfl,⟨World.ownsRow_nil _ _ _ _,World.ownsRow_nil _ _ _ _⟩,(fun g h=>by cases h),Fr.refl _ _⟩
 case round =>
  obtain⟨k,hk,rfl,hP⟩:=hrel;have HP:=hid hP;by_cases hlt:k<n
  ·have hd:decide (k<n)=true:=by simp[hlt]
   have hki:(k:Int)<(n:Int):=oM
   obtain⟨x,hx⟩:∃ x,es[k]?=some x:=⟨_,gE (by rw[HN.out];exact hlt)⟩
   obtain⟨g,rfl,hg,u0,u1,u2,u3⟩:=bG0 (oN HE.out hP.2.2) hx;obtain⟨W,hW⟩:=eX (wr.alloc (.cells #[.int .u64 x.hash,.int .i64 x.rg,.int .i64 x.at_,.int .i64 x.sz] 118))
   have bW:W.heap[wr.heap.size]?=some (.cells #[.int .u64 x.hash,.int .i64 x.rg,.int .i64 x.at_,.int .i64 x.sz] 118):=by rw[<- hW];exact han _ _
   have HFW:=hid (show Fq wr W by rw[<- hW];exact (Fr.refl _ _).alloc _);have HX:=hid hx;have HW:=hid hW;have HBW:=hid bW;have HCx:=hid (HC.out x (gM hx) W (hP.2.2.trans HFW.out nI));clear hx hW bW hP;go_upto_region 4 with fail
   rw[HW.out];obtain⟨t0,t1,t2,t3,tz,tl⟩:=ah0 HBW.out;clear u0 u1 u2 u3;go_wp2_with fail
   refine HCx.out.mono ?_;rintro e W2 ⟨rfl,F2⟩;obtain⟨⟨h1,h2⟩,hdj,hFr⟩:=HP.out;have F02:Fq wr W2:=HFW.out.trans F2 nI;have h1':=oN h1 F02;have h2':=oN h2 F02;obtain⟨a1,c1,rfl,-,-,-,-⟩:=oSl h1';obtain⟨a2,c2,rfl,-,-,-,-⟩:=oSl h2';obtain⟨t0,t1,t2,t3,tz,tl⟩:=ah0 (F2.heap HBW.out id);have hle1:((es.take k).filter f).length<=255:=nT (lD9 _ _) (by rw[lT];omega);have hle2:((es.take k).filter (fun x=>!f x)).length<=255:=nT (lD9 _ _) (by rw[lT];omega);have hb0:w.heap.size<=W2.heap.size:=nT hFr.size F02.size;have htk:es.take (k+1)=es.take k++[x]:=by rw[lw9,HX.out];rfl
   have HT:=hid htk;have H12:=hi2 h1' (aI h2' (aI hdj (hFr.trans F02 nI)));have HO1:=hid h1';have HO2:=hid h2';have HL1:=hid hle1;have HL2:=hid hle2;clear h1 h2 h1' h2' hdj hFr F2 F02 htk hle1 hle2;cases hfx:f x with
   | true =>
    have HFX:=hid hfx;clear hfx;go_wp2_with (at_builtin;refine wpList_append_own_at _ rfl (.tmp 17) (.tmp 19) 127 rfl w.heap.size 118 i0 _ 4 32 Tryz.underlying127 hi0 hz0 hz1 hz2 rfl dC _ _ _ rfl (HO1.out.alloc _) ⟨W2.heap.size,0,none⟩ 1 1 (btC x) rfl rfl (World.news_of_block (cs:=#[.int .u64 x.hash,.int .i64 x.rg,.int .i64 x.at_,.int .i64 x.sz]) (t:=118) (fr:=(0,0)) (han _ _)) (by simp[Value.oneCell']) (by have:=HL1.out;simp only[maxLen];omega) (by have:=HL1.out;omega) sO ?_)
    intro v3 W3 hown3 hg3 hnil3 hat3;have hst:=eK0 (v3:=v3) H12.out.1 H12.out.2.1 H12.out.2.2.1 H12.out.2.2.2 (nR _) _ hg3 (by simpa using hat3);have HQ:=hid (show lA0 w.heap.size f (es.take (k+1)) w v3 (.slice a2 ((es.take k).filter (fun x=>!f x)).length c2) W3 by
     have e1:(es.take (k+1)).filter f=(es.take k).filter f++[x]:=(by rw[HT.out,lP9];simp[HFX.out]);have e2:(es.take (k+1)).filter (fun x=>!f x)=(es.take k).filter (fun x=>!f x):=(by rw[HT.out,lP9];simp[HFX.out]);refine⟨⟨?_,by rw[e2];exact hst.1⟩,hst.2.1,hst.2.2⟩;unfold bm0;rw[e1,lA,li9];simpa using hown3)
    clear hst hown3 hg3 hnil3 hat3;go_wp2_with fail
    go_roundw;case rel=>exact⟨k+1,hlt,by go_num,HQ.out⟩
    case measure=>simp[intOf];omega
   | false =>
    have HFX:=hid hfx;clear hfx;go_wp2_with (at_builtin;refine wpList_append_own_at _ rfl (.tmp 21) (.tmp 23) 127 rfl w.heap.size 118 i0 _ 4 32 Tryz.underlying127 hi0 hz0 hz1 hz2 rfl dC _ _ _ rfl (HO2.out.alloc _) ⟨W2.heap.size,0,none⟩ 1 1 (btC x) rfl rfl (World.news_of_block (cs:=#[.int .u64 x.hash,.int .i64 x.rg,.int .i64 x.at_,.int .i64 x.sz]) (t:=118) (fr:=(0,0)) (han _ _)) (by simp[Value.oneCell']) (by have:=HL2.out;simp only[maxLen];omega) (by have:=HL2.out;omega) sO ?_)
    intro v3 W3 hown3 hg3 hnil3 hat3;have hst:=eK0 (v3:=v3) H12.out.2.1 H12.out.1 (fun g e2 e1=>H12.out.2.2.1 g e1 e2) H12.out.2.2.2 (nR _) _ hg3 (by simpa using hat3);have HQ:=hid (show lA0 w.heap.size f (es.take (k+1)) w (.slice a1 ((es.take k).filter f).length c1) v3 W3 by
     have e1:(es.take (k+1)).filter f=(es.take k).filter f:=(by rw[HT.out,lP9];simp[HFX.out]);have e2:(es.take (k+1)).filter (fun x=>!f x)=(es.take k).filter (fun x=>!f x)++[x]:=(by rw[HT.out,lP9];simp[HFX.out]);refine⟨⟨by rw[e1];exact hst.1,?_⟩,(fun g e1 e2=>hst.2.1 g e2 e1),hst.2.2⟩;unfold bm0;rw[e2,lA,li9];simpa using hown3)
    clear hst hown3 hg3 hnil3 hat3;go_wp2_with fail
    go_roundw;case rel=>exact⟨k+1,hlt,by go_num,HQ.out⟩
    case measure=>simp[intOf];omega
  ·obtain rfl:k=n:=by omega
   have hd:decide (k<k)=false:=by simp
   go_wp2_with fail
   go_ret2;rw[tL (by rw[HN.out];exact nR _)] at HP;exact⟨_,_,rfl,HP.out⟩
end
section
open Go.RowKit Go.Sg Go.Sg.Bits Go.Sg.Clk CP
namespace SF
end SF
end
section
open Go.RowKit Go.Sg Go.Sg.Bits Go.Sg.Clk CP SF
structure Like (y y':Cs):Prop where
 plan:y'.plan=y.plan
 first:y'.first=y.first
 pages:y'.pages=y.pages
 room:y'.room=y.room
 places:y'.places=y.places
 sectors:y'.sectors=y.sectors
 size:y'.size=y.size
theorem Like.refl (y:Cs):Like y y:=⟨rfl,rfl,rfl,rfl,rfl,rfl,rfl⟩
variable {y:Cs}{w w':World}{N:Nat}
theorem Like.trans {y1 y2:Cs}(h:Like y y1)(k:Like y1 y2):Like y y2:=
 ⟨k.plan.trans h.plan,k.first.trans h.first,k.pages.trans h.pages,k.room.trans h.room,k.places.trans h.places,k.sectors.trans h.sectors,k.size.trans h.size⟩
variable {B:Blk}
theorem _root_.Go.Sg.FrB.trans' {S:Nat->Prop}{w1 w2:World}(h:FrB B w w1)(k:Fr S w1 w2)(hs:∀ b,b<w.heap.size->¬ S b):FrB B w w2:=Fr.trans h k fun b hb hb'=>absurd hb' (hs b hb)
variable {P:aC0}
theorem aP0.mono {N':Nat}(h:aP0 w B y P N)(hN:N<=N'):aP0 w B y P N':=by
 obtain⟨D,h1,h2,h3⟩:=h.ex;exact⟨D,h1,h2.mono hN,h3⟩
theorem aP0.frL (h:aP0 w B y P N){k:Nat}(F:Fr (fun b=>b=k) w w'){c:Array Value}{t:TypeId}(hk:w.heap[k]?=some (.cells c t))(ht:t ∉ 5 :: em0):aP0 w' B y P N:=by
 obtain⟨D,h1,h2,h3⟩:=h.ex;have h1':=h1;obtain⟨lv,hd,_⟩:=h1.dc;obtain⟨l,ck,hf,_⟩:=h1.fast;obtain⟨l',ck',hq,_⟩:=h1.past;refine⟨D,h1'.fr F (fun e=>?_) (fun e=>?_) (fun e=>?_) (fun g c' t' ht' hg e=>?_),h2,h3⟩
 ·rw[e,hk] at hd;cases hd;exact ht dC
 ·rw[e,hk] at hf;cases hf
 ·rw[e,hk] at hq;cases hq
 ·rw[e,hk] at hg;cases hg;rcases ht' with rfl|rfl|rfl <;> exact ht dC
theorem aP0.fr0 (h:aP0 w B y P N)(F:Fq w w'):aP0 w' B y P N:=by
 obtain⟨D,h1,h2,h3⟩:=h.ex;exact⟨D,h1.fr F id id id (fun _ _ _ _ _ h=>h),h2,h3⟩
