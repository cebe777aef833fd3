/- A pack of texts. Conditions: those that each names. -/
import Derived.Test.YtgdhaaokolfdoaaGreatDoorNBJ
set_option maxHeartbeats 16000000
set_option maxRecDepth 100000
set_option linter.all false
namespace Go.Proofs.YtgdhaaokolfdoaaGreatDoor
open Tryz
section
open Go.RowKit Go.Sg CP SF
def rows:Tr->Nat->Nat->Lb
 | .leaf _ es,d,p=>[(d,p,es)]
 | .node l r,d,p=>rows l (d+1) (2*p)++rows r (d+1) (2*p+1)
def Wy:∀ (t:Tr) (d p:Nat),rows (bare t) d p=rows t d p
 | .leaf _ _,_,_=>rfl
 | .node l r,d,p=>by simp only[bare,rows,Wy l,Wy r]
def Xu:∀ (t:Tr) (d p:Nat),rows t d p=(eG t d p).map fun s=>(s.1,s.2.1,s.2.2.2)
 | .leaf _ _,_,_=>rfl
 | .node l r,d,p=>by simp only[rows,eG,B9,Xu l,Xu r]
def OK:∀ (t:Tr) (d p:Nat),(rows t d p).length=t.refs.length
 | .leaf _ _,_,_=>rfl
 | .node l r,d,p=>by simp only[rows,Tr.refs,lA,OK l,OK r]
def OJ:∀ (t:Tr) (d p:Nat) (b:Nat × Nat × List Bt),b ∈ rows t d p->d<=b.1/\b.1<=d+t.high/\b.2.1/2^(b.1-d)=p
 | .leaf _ es,d,p,b,hb=>by
  simp only[rows,mZ] at hb;subst hb;simp
 | .node l r,d,p,b,hb=>by
  have key:∀ q,d+1<=b.1->b.2.1/2^(b.1-(d+1))=q->b.2.1/2^(b.1-d)=q/2:=fun q h1 h2=>by
   rw[<- h2,Ak,<- dB,show (b.1-(d+1)).succ=b.1-d by omega]
  simp only[rows,X5] at hb;simp only[Tr.high];rcases hb with hb|hb
  .obtain⟨h1,h2,h3⟩:=OJ l _ _ b hb;exact⟨oM,oM,by rw[key _ h1 h3];omega⟩
  .obtain⟨h1,h2,h3⟩:=OJ r _ _ b hb;exact⟨oM,oM,by rw[key _ h1 h3];omega⟩
variable {t:Tr}{d g h i k p:Nat}
def rows_ok (h:ee t 0 0):∀ b ∈ rows t 0 0,S8 b.1 b.2.1 b.2.2/\b.2.1<2^b.1/\b.1<=t.high:=fun b hb=>by
 rw[Xu] at hb;obtain⟨s,hs,rfl⟩:=N4.1 hb;obtain⟨h1,h2,-,h4⟩:=QM t 0 0 h dC s hs;exact⟨h1,h2,oM⟩
def Xt (h:ee t 0 0)(hh:t.high<=3):∀ b ∈ rows t 0 0,Hq b:=fun b hb=>by
 obtain⟨h1,h2,h3⟩:=rows_ok h b hb;exact⟨oM,h2,by have:=h1.1;omega,h1.2.1,fun x hx=>(h1.2.2 x hx).1.1⟩
variable {b:Nat × Nat × List Bt}
def zv0 (hh:h<18446744073709551616)(hb:b ∈ rows t d p)(h20:d+t.high<=20)(hi:R9 h b=true):X0 h d=p:=by
 obtain⟨h1,h2,h3⟩:=OJ t d p b hb;have e:X0 h b.1=b.2.1:=by simpa[R9] using hi
 rw[<- h3,<- e,LJ oM h1 hh]
def XY {h:Nat}(hh:h<18446744073709551616):∀ (t:Tr) (g k d p:Nat),t.high<=g->d+g<=20->X0 h (d+g)=p*2^g+k->k<2^g ->
  ∃ A C,(∀ f,rows (t.put g k f) d p=A++(rows (f (t.at_ g k d p).2.2.1 (t.at_ g k d p).2.2.2) (t.at_ g k d p).1 (t.at_ g k d p).2.1++C))/\(∀ b ∈ A,R9 h b=false)/\X0 h (t.at_ g k d p).1=(t.at_ g k d p).2.1
 | .leaf r es,g,k,d,p,_,h20,hp,hk=>by
  refine⟨[],[],fun f=>by simp[Tr.put,Tr.at_],fun b hb=>by (cases hb),?_⟩;have:=LJ (h:=h) (g:=d+g) (d:=d) h20 oM hh;rw[show d+g-d=g by omega,hp,dU,Nat.mul_add_div (iu dC),DK hk] at this;exact this.symm
 | .node l r,g,k,d,p,hg,h20,hp,hk=>by
  simp only[Tr.high] at hg;have h2:=Tr.se (g:=g) oM;have hd:=LJ (h:=h) (g:=d+g) (d:=d+1) h20 oM hh;rw[show d+g-(d+1)=g-1 by omega,hp] at hd;have hq:p*2^g=2^(g-1)*(2*p):=by rw[h2,uf,dU p];rw[<- Nat.two_mul,Nat.mul_left_comm]
  by_cases hlt:k<2^(g-1)
  .obtain⟨A,C,h1,h3,h4⟩:=XY hh l (g-1) k (d+1) (2*p) oM oM (by rw[show d+1+(g-1)=d+g by omega,hp,hq,dU]) hlt;refine⟨A,C++rows r (d+1) (2*p+1),fun f=>?_,h3,?_⟩
   .simp only[Tr.put,Tr.at_,if_pos hlt,rows];rw[h1 f];simp
   .simp only[Tr.at_,if_pos hlt];exact h4
  .have iY:k-2^(g-1)<2^(g-1):=by omega
   obtain⟨A,C,h1,h3,h4⟩:=XY hh r (g-1) (k-2^(g-1)) (d+1) (2*p+1) oM oM (by rw[show d+1+(g-1)=d+g by omega,hp,hq,DU,dU (2*p)];omega) iY;refine⟨rows l (d+1) (2*p)++A,C,fun f=>?_,fun b hb=>?_,?_⟩
   .simp only[Tr.put,Tr.at_,if_neg hlt,rows];rw[h1 f];simp
   .rcases X5.1 hb with hb|hb
    .cases hi:R9 h b with
     | false=>rfl
     | true =>
      have e:=zv0 hh hb oM hi;rw[e,hq,Nat.mul_add_div (iu dC)] at hd;have:1<=k/2^(g-1):=(Qh (iu dC)).2 oM;omega
    .exact h3 b hb
   .simp only[Tr.at_,if_neg hlt];exact h4
variable {r:Rf}{es:List Bt}
def LH (hh:h<18446744073709551616)(hg:t.high<=g)(h20:g<=20)(hz:t.at_ g (X0 h g) 0 0=(d,p,r,es)) :
  ∃ i,(rows t 0 0).findIdx? (R9 h)=some i/\(rows t 0 0)[i]?=some (d,p,es)/\X0 h d=p/\∀ f,rows (t.put g (X0 h g) f) 0 0=rep (rows t 0 0) i (rows (f r es) d p):=by
 obtain⟨A,C,h1,h2,h3⟩:=XY hh t g (X0 h g) 0 0 hg oM (by rw[o8];omega) (LI h20 hh);rw[hz] at h1 h3;simp only at h1 h3;have e:=h1 Tr.leaf;rw[BD] at e;simp only[rows] at e;have hb:R9 h (d,p,es)=true:=decide_eq_true h3;refine⟨A.length,?_,?_,h3,fun f=>?_⟩
 .rw[e,List.findIdx?_append,ud.2 h2];simp[ue,hb]
 .rw[e,kN (nR _)];simp
 .have e1:(A++([(d,p,es)]++C)).take A.length=A:=List.take_left ..;have e2:(A++([(d,p,es)]++C)).drop (A.length+1)=C:=by rw[<- dD,show A.length+1=(A++[(d,p,es)]).length by simp,List.drop_left]
  rw[h1 f,e];unfold rep;rw[e1,e2,dD]
def nT0 (h:S8 d p es)(hd:d<20)(r:Rf)(es0:List Bt):rows (jZ d es r es0) d p=halves (d,p,es) es:=by
 have key:∀ x ∈ es,bN d (2*p) x = !ac d x/\bN d (2*p+1) x=ac d x:=fun x hx=>by
  obtain⟨hg,hp⟩:=h.2.2 x hx;have h1:=Iy hd hg.1;simp only[bN,ac];rcases Nat.mod_two_eq_zero_or_one (X0 x.hash (d+1)) with e|e
  .exact⟨by rw[decide_eq_true (show X0 x.hash (d+1)=2*p by omega),decide_eq_false (show ¬ _ by omega)];rfl,by rw[decide_eq_false (show ¬ X0 x.hash (d+1)=2*p+1 by omega),decide_eq_false (show ¬ _ by omega)]⟩
  .exact⟨by rw[decide_eq_false (show ¬ X0 x.hash (d+1)=2*p by omega),decide_eq_true e];rfl,by rw[decide_eq_true (show X0 x.hash (d+1)=2*p+1 by omega),decide_eq_true e]⟩
 simp only[jZ,rows,halves,Mc];rw[Qo fun x hx=>(key x hx).1.symm,Qo fun x hx=>(key x hx).2.symm]
def vh0 (h:S8 d p es)(k:Nat)(o:Int):S8 d p (aL es k o):=by
 unfold aL;split
 .exact h
 .exact EI h _
variable {x:Bt}
def vC0 (hs:m9 es){j:Nat}{y:Bt}(hx:es[i]?=some x)(hy:es[j]?=some y)(e:x.hash=y.hash):i=j:=by
 obtain⟨hi,rfl⟩:=gI.1 hx;obtain⟨hj,rfl⟩:=gI.1 hy;rcases Nat.lt_trichotomy i j with h|h|h
 .have:=xT.1 hs i j hi hj h;omega
 .exact h
 .have:=xT.1 hs j i hj hi h;omega
def jM0 (hs:m9 es)(hx:es[k]?=some x):es.filter (I8 x.hash)=es.eraseIdx k:=by
 have e:=pK0 hx;have hk:=(gI.1 hx).1;have h1:(es.take k).filter (I8 x.hash)=es.take k:=Me.2 fun y hy=>by
  obtain⟨i,hi⟩:=ou.1 hy;rw[gT] at hi;split at hi
  .simp only[I8,Qp,decide_eq_false_iff_not];exact fun e=>by have:=vC0 hs hi hx e;omega
  .cases hi
 have h2:(es.drop (k+1)).filter (I8 x.hash)=es.drop (k+1):=Me.2 fun y hy=>by
  have:=yI0 hs hx y hy;simp only[I8,Qp,decide_eq_false_iff_not];omega
 rw[List.eraseIdx_eq_take_drop_succ];conv=>lhs;rw[e,qe,List.filter_cons,h1,h2]
 simp[I8]
def sS0 (x y:Bt):oZ x y=wU x y:=by
 unfold oZ wU ym oB;by_cases h1:x.rg<y.rg <;> by_cases h2:y.rg<x.rg <;> by_cases h3:x.at_<y.at_ <;> by_cases h4:y.at_<x.at_ <;> simp[h1,h2,h3,h4] <;> omega
def sz0 (es:List Bt):∀ k:Nat,0<k->k<=es.length->jw es k=some (jx es k).toNat/\((jx es k).toNat:Int)=jx es k
 | 0,h,_=>by omega
 | k+1,_,hk=>by
  obtain⟨x,hx⟩:∃ x,es[k]?=some x:=⟨_,gE oM⟩
  rcases Nat.eq_zero_or_pos k with rfl|h0
  .refine⟨?_,rfl⟩;simp only[jw,hx];rfl
  .obtain⟨h1,h2⟩:=sz0 es k h0 oM;obtain⟨j,rfl⟩:∃ j,k=j+1:=⟨k-1,oM⟩
   have jD:=PW es j;obtain⟨y,hy⟩:∃ y,es[vS es j]?=some y:=⟨_,gE oM⟩
   have hb:jx es (j+1)=(vS es j:Int):=rfl;have U1:=jf0 (es:=es) (k:=j+1) oM hx (by simpa using hy);rw[hb] at h1 h2 U1;simp only[jK] at h1;have hee:oZ x y=wU x y:=sS0 x y;rw[jw,h1,hx];simp only[hy];rw[U1,hee];split
   .exact⟨rfl,rfl⟩
   .exact⟨rfl,rfl⟩
def na0 (hs:m9 es)(h:es≠[]):es.filter (I8 (DG es))=es.eraseIdx (jx es es.length).toNat:=by
 have hl:=List.length_pos_iff.2 h;obtain⟨h1,-⟩:=sz0 es es.length hl (nR _);have hlt:=(OU es _ _ h1).2;have hx:=gE hlt;unfold DG;rw[h1];simp only[hx];exact jM0 hs hx
def Ow {y:Bt}(hy:tZ y)(o:Int):∀ (n:Nat) (t:Tr) (g:Nat) (sp:Int),t.high=g->g<=3->ee t 0 0 ->
  jk n g (rows t 0 0) sp y o=⟨(eo n t g sp y o).g,rows (eo n t g sp y o).t 0 0,(eo n t g sp y o).sp,(eo n t g sp y o).lost⟩
 | 0,t,g,sp,_,_,_=>rfl
 | n+1,t,g,sp,hg,h3,hok=>by
  have h1:=Gb t g (X0 y.hash g) 0 0 hok;have bU:=Tr.BH t g (X0 y.hash g) 0 0;have Vb:=fun es=>OB (fun _ _=>jZ (t.at_ g (X0 y.hash g) 0 0).1 es (0,0) []) (fun _ _=>rfl) t g (X0 y.hash g) 0 0
  obtain⟨⟨d,p,r,es⟩,hz⟩:∃ z,t.at_ g (X0 y.hash g) 0 0=z:=⟨_,rfl⟩
  obtain⟨i,hi,hb,hp,hf⟩:=LH hy.1 oM oM hz;rw[hz] at h1 bU Vb;simp only[hg,Nat.sub_zero,o8] at h1 bU Vb;rw[Yc hi hb];simp only[eo,hz];have o7:=vh0 h1 y.hash o;generalize aL es y.hash o=es' at o7;by_cases hr:cy es' y.hash 3=true
  .rw[if_pos hr,if_pos hr,hf];rfl
  .rw[if_neg hr,if_neg hr];by_cases hD:d<3
   .rw[if_pos hD,if_pos hD];have KC:=Mi (fun _ _=>jZ d es' (0,0) []) t g (X0 y.hash g) 0 0 hok (by rw[hz];exact Oe o7 oM);have Ds:rows (t.put g (X0 y.hash g) fun _ _=>jZ d es' (0,0) []) 0 0=rep (rows t 0 0) i (halves (d,p,es) es'):=by
     rw[hf];exact congrArg _ (nT0 o7 oM _ _)
    have JZ:=Vb es';by_cases fI:d=g
    .rw[if_pos fI,if_pos fI];have VJ:t.put (g+1) (2*X0 y.hash g) (jZ d es')=t.put g (X0 y.hash g) (fun _ _=>jZ d es' (0,0) []):=Yb _ t g _ oM;rw[VJ,<- Ds];exact Ow hy o n _ _ _ (by rw[JZ];omega) oM KC
    .rw[if_neg fI,if_neg fI];have VJ:t.put g (X0 y.hash g) (jZ d es')=t.put g (X0 y.hash g) (fun _ _=>jZ d es' (0,0) []):=rfl;rw[VJ,<- Ds];exact Ow hy o n _ _ _ (by rw[JZ];omega) h3 KC
   .rw[if_neg hD,if_neg hD,hf];have hne:es'≠[]:=fun e=>by subst e;exact hr rfl
    rw[na0 o7.2.1 hne];rfl
def tD0 (y:Bt)(o:Int)(hy:y.hash<18446744073709551616):∀ (n g:Nat) (l:Lb) (sp:Int) (i:Nat) (b:Nat × Nat × List Bt),l.findIdx? (R9 y.hash)=some i->l[i]?=some b->b.1<=3->sp<=(jk n g l sp y o).sp/\(jk n g l sp y o).sp+b.1<=sp+3
 | 0,g,l,sp,i,b,_,_,h3=>⟨DV _,by show sp+(b.1:Int)<=sp+3;omega⟩
 | n+1,g,l,sp,i,b,hi,hb,h3=>by
  rw[Yc hi hb];split
  .exact⟨DV _,by show sp+(b.1:Int)<=sp+3;omega⟩
  .split
   .rename_i h;have hh:R9 y.hash b=true:=by
     rw[ox] at hi;obtain⟨h1,h2,-⟩:=hi;rw[gE h1] at hb;cases hb;exact h2
    obtain⟨j,c,hj,hc,hcd⟩:=jU0 (aL b.2.2 y.hash o) hh h hy;obtain⟨h4,h5⟩:=tD0 y o hy n (if b.1=g then g+1 else g) _ (sp+1) _ c (up0 hi hj) (yn0 (FU (getD_some hb)) hc) oM;rw[hcd] at h5;exact⟨oM,oM⟩
   .exact⟨DV _,by show sp+(b.1:Int)<=sp+3;omega⟩
def wH0 {l:Lb}(h:l[i]?=some b):rep l i [b]=l:=by
 obtain⟨hi,rfl⟩:=gI.1 h;unfold rep;rw[dD,Mc,<- FT hi,Mb]
def jZ0 (hh:h<18446744073709551616)(hg:t.high=g)(h3:g<=3)(hok:ee t 0 0) :
  ∃ i b,(rows t 0 0).findIdx? (R9 h)=some i/\(rows t 0 0)[i]?=some b/\rep (rows t 0 0) i [(b.1,b.2.1,b.2.2.filter (I8 h))]=rows (nK t g h).1 0 0/\(bS b.2.2 h).isSome=(nK t g h).2/\bS b.2.2 h=Mx t h:=by
 have h1:=Gb t g (X0 h g) 0 0 hok;obtain⟨e1,e2,-⟩:=at_root hh t g oM oM;obtain⟨⟨d,p,r,es⟩,hz⟩:∃ z,t.at_ g (X0 h g) 0 0=z:=⟨_,rfl⟩
 obtain⟨i,hi,hb,hp,hf⟩:=LH hh oM oM hz;rw[hz] at h1 e2;simp only at h1 e2;refine⟨i,_,hi,hb,?_,?_,by unfold Mx;rw[<- e2]⟩
 .unfold nK;simp only[hz];by_cases cY:hasB es h=true
  .rw[if_pos cY,hf];obtain⟨y,hy,rfl,-⟩:=sJ0 h1.2.1 cY;show rep _ i [(d,p,es.filter (I8 y.hash))]=rep _ i [(d,p,kW es y.hash)];unfold kW;rw[if_pos cY,jM0 h1.2.1 hy]
  .rw[if_neg cY];have:es.filter (I8 h)=es:=Me.2 fun x hx=>by
    simp only[I8,Qp,decide_eq_false_iff_not];exact fun e=>cY (by unfold hasB;rw[vK];exact⟨x,hx,by simp[e]⟩)
   show rep _ i [(d,p,es.filter (I8 h))]=_;rw[this,wH0 hb]
 .show (bS es h).isSome=_;rw[<- OR];unfold nK;simp only[hz];cases cY:hasB es h <;> rfl
def DW (g k:Nat)(b:Nat × Nat × List Bt):Bool:=decide (k/2^(g-b.1)=b.2.1)
def xt0 (hk:k<2^g)(hg:t.high<=g)(h20:g<=20)(hz:t.at_ g k 0 0=(d,p,r,es)) :
  ∃ i,(rows t 0 0).findIdx? (DW g k)=some i/\(rows t 0 0)[i]?=some (d,p,es):=by
 have hh:k*2^(64-g)<18446744073709551616:=by
  refine E4 (Nat.mul_lt_mul_of_pos_right hk (iu dC)) ?_;rw[<- Aq,show g+(64-g)=64 by omega];decide
 have hpk:X0 (k*2^(64-g)) g=k:=by
  by_cases g0:g=0
  .subst g0;rw[Iw];simp at hk;exact hk.symm
  .unfold X0;rw[if_neg oM,Nat.mul_div_cancel _ (iu dC)]
 obtain⟨i,hi,hb,-⟩:=LH (d:=d) (p:=p) (r:=r) (es:=es) hh hg h20 (by rw[hpk];exact hz);refine⟨i,?_,hb⟩;have he:∀ b ∈ rows t 0 0,DW g k b=R9 (k*2^(64-g)) b:=fun b hb=>by
  have h1:=OJ t 0 0 b hb;unfold DW R9;rw[<- LJ (g:=g) h20 oM hh,hpk]
 rw[ox] at hi ⊢;obtain⟨h1,h2,h3⟩:=hi;exact⟨h1,by rw[he _ (List.getElem_mem h1)];exact h2,fun j hj=>by rw[he _ (List.getElem_mem oM)];exact h3 j hj⟩
end
section
open Go.RowKit Go.Sg Go.Sg.Bits Go.Sg.r4 CP SF
def Z7 (w0:w9)(base bs bv bx:Nat)(P:D4)(a:Bool)(N G:Nat)(t:Tr)(sp:Int)(V:w9):Prop:=
 ∃ (B:P0) (bd:Nat) (y:Cs) (x:P1) (t':Tr),bR V B bx bd y P a N x t' sp/\bare t'=t/\(B.base=base/\B.s=bs/\B.d=bv)/\Fq w0 V/\(base=w0.heap.size/\base<=bx/\base<=bd)/\(y.gen=G/\y.first=12)
def fp (w0:w9)(base bv:Nat)(P:D4)(N:Nat)(V:w9):Prop:=
 ∃ (B:P0) (y:Cs),C5 V B y P N/\(B.base=base/\B.d=bv)/\Fq w0 V/\(y.C0=120/\y.size=96)
def Rd (w0:w9)(base bs bv bx:Nat)(P:D4)(a:Bool)(N N' G:Nat)(t:Tr)(sp:Int)(V:w9)(err:Int)(w':w9):Prop:=
 D1 base V w'/\((err=0/\Z7 w0 base bs bv bx P a N G t sp w')\/(err=4/\a=true/\fp w0 base bv P N' w'))
section
variable {w0 V V':w9}{base bs bv bx N G:Nat}{P:D4}{a:Bool}{t:Tr}{sp:Int}
def Z7.fr (h:Z7 w0 base bs bv bx P a N G t sp V):Fq w0 V:=by
 obtain⟨_,_,_,_,_,_,_,_,h,_⟩:=h;exact h
def Z7.Dx0 (h:Z7 w0 base bs bv bx P a N G t sp V):base=w0.heap.size:=by
 obtain⟨_,_,_,_,_,_,_,_,_,h,_⟩:=h;exact h.1
def Z7.J0 (h:Z7 w0 base bs bv bx P a N G t sp V)(F:Fq V V'):Z7 w0 base bs bv bx P a N G t sp V':=by
 obtain⟨B,bd,y,x,t',hT,h2,h3,h4,h5⟩:=h;exact⟨B,bd,y,x,t',hT.J0 F,h2,h3,h4.trans F nI,h5⟩
def Z7.mono (h:Z7 w0 base bs bv bx P a N G t sp V){N':Nat}(hN:N<=N')(h9:N'<=90000):Z7 w0 base bs bv bx P a N' G t sp V:=by
 obtain⟨B,bd,y,x,t',hT,h2⟩:=h;exact⟨B,bd,y,x,t',hT.mono hN h9,h2⟩
def Z7.high (h:Z7 w0 base bs bv bx P a N G t sp V):t.high<=3/\ee t 0 0:=by
 obtain⟨B,bd,y,x,t',hT,rfl,-⟩:=h;exact⟨by rw[qM,hT.high];exact hT.depth,XB _ _ _ hT.ok⟩
def oU (Z:Cs->Prop)(w0:w9)(base bs bv bx:Nat)(P:D4)(a:Bool)(N G:Nat)(t:Tr)(sp:Int)(V:w9):Prop:=
 ∃ (B:P0) (bd:Nat) (y:Cs) (x:P1) (t':Tr),bR V B bx bd y P a N x t' sp/\bare t'=t/\(B.base=base/\B.s=bs/\B.d=bv)/\Fq w0 V/\(base=w0.heap.size/\base<=bx/\base<=bd)/\(y.gen=G/\y.first=12)/\Z y
variable {Z:Cs->Prop}{hash:Nat}
def oU.kp (h:oU Z w0 base bs bv bx P a N G t sp V):Z7 w0 base bs bv bx P a N G t sp V:=by
 obtain⟨B,bd,y,x,t',h1,h2,h3,h4,h5,h6,-⟩:=h;exact⟨B,bd,y,x,t',h1,h2,h3,h4,h5,h6⟩
def oU.J0 (h:oU Z w0 base bs bv bx P a N G t sp V)(F:Fq V V'):oU Z w0 base bs bv bx P a N G t sp V':=by
 obtain⟨B,bd,y,x,t',hT,h2,h3,h4,h5,h6⟩:=h;exact⟨B,bd,y,x,t',hT.J0 F,h2,h3,h4.trans F nI,h5,h6⟩
def fp.J0 (h:fp w0 base bv P N V)(F:Fq V V'):fp w0 base bv P N V':=by
 obtain⟨B,y,hD,h1,h2,h3⟩:=h;exact⟨B,y,hD.J0 F,h1,h2.trans F nI,h3⟩
def Y1.dn {Q:J2}{B:P0}{bd:Nat}{y:Cs}{x:P1}{E0 slots:List Rf}{L:List Bp}{s:Int}(h:Y1 V B bx bd y Q a N x E0 slots L s)(hf:y.first=12):y.C0=120/\y.size=96:=by
 have h1:=h.st.sizes;have h2:=h.pages;have h3:=h.room;omega
def tC0 {E:Bt}(hE:tZ E)(o:Int)(hh:t.high<=3)(hok:ee t 0 0):sp<=(eo 8 t t.high sp E o).sp/\(eo 8 t t.high sp E o).sp<=sp+3:=by
 have h1:=Ow hE o 8 t t.high sp rfl hh hok;obtain⟨z,hz⟩:=eX (t.at_ t.high (X0 E.hash t.high) 0 0)
 obtain⟨d,p,r,es⟩:=z;have hd:=Tr.BH t t.high (X0 E.hash t.high) 0 0;obtain⟨i,hi,hb,-⟩:=LH hE.1 (nR _) oM hz;rw[hz] at hd;have:=tD0 E o hE.1 8 t.high (rows t 0 0) sp i _ hi hb (by simp only at hd ⊢;omega);rw[h1] at this;simp only at this;exact⟨this.1,oM⟩
def Bh0 (h:Z7 w0 base bs bv bx P a N G t sp V)(E:Bt)(o:Int)(hE:tZ E)(hN:N+1300<=90000)(hsp:0<=sp/\sp+8<=100000){R:wV}(hR:eo 8 t t.high sp E o=R) :
  cP 64 #[O7 bx,E8 E,iI o] V (fun e w'=>∃ (lost:Bool) (err:Int),e = rT (tU #[bO lost,iI err])/\(err=0->lost=R.lost/\R.t.high=R.g)/\Rd w0 base bs bv bx P a (N+480) (N+1300) G R.t R.sp V err w'):=by
 obtain⟨hh,hok⟩:=h.high;have hs:=tC0 hE o hh hok (sp:=sp);rw[hR] at hs;obtain⟨B,bd,y,x,t',hT,rfl,hB,hF,U1,hG⟩:=h;obtain⟨E0,L,hM,-⟩:=hT.ex;have jF:=Wz 8 (bare t') x.depth (sp:=sp) (E:=E) (o:=o) (c:=(bare t').refs.length-sp) oM;rw[qM,hT.high] at hR;have hp:=uA0 hT E o hE hsp hN;rw[hR] at hp jF;refine hp.mono ?_;rintro e w' ⟨lost,err,rfl,F,hr⟩;have FI:D1 base V w':=by rw[<- hB.1];exact oB0 F hM.dir hM.idx hM.base
 refine⟨lost,err,rfl,fun h0=>?_,FI,?_⟩
 .rcases hr with⟨-,h1,y',x',t2,N',eu,-,P4,C6,-⟩|⟨h1,-⟩
  .exact⟨h1,by rw[<- P4,qM,eu.high,C6]⟩
  .omega
 .rcases hr with⟨h0,-,y',x',t2,N',eu,Ui,P4,-,hlk,I1,-⟩|⟨h0,ha,hD⟩
  .refine .inl ⟨h0,B,bd,y',x',t2,eu.mono ?_ oM,P4,hB,FI.J0 (N6 U1.1.symm) hF,U1,I1.trans hG.1,hlk.first.trans hG.2⟩;rw[<- P4,Ig,Ig] at jF;omega
  .exact .inr ⟨h0,ha,B,y,hD,⟨hB.1,hB.2.2⟩,FI.J0 (N6 U1.1.symm) hF,hM.dn hG.2⟩
def zm0 (h:Z7 w0 base bs bv bx P a N G t sp V)(hh:hash<18446744073709551616)(hN:N+23<=90000) :
  cP 70 #[O7 bx,iU hash] V (fun e w'=>∃ (was:Bool) (err:Int),e = rT (tU #[bO was,iI err])/\(err=0->was=(nK t t.high hash).2)/\Rd w0 base bs bv bx P a (N+23) (N+23) G (nK t t.high hash).1 sp V err w'):=by
 obtain⟨B,bd,y,x,t',hT,rfl,hB,hF,U1,hG⟩:=h;obtain⟨E0,L,hM,-⟩:=hT.ex;rw[qM,hT.high];refine (xl0 hT hh hN).mono ?_;rintro e w' ⟨was,err,rfl,F,hr⟩;have FI:D1 base V w':=by rw[<- hB.1];exact oB0 F hM.dir hM.idx hM.base
 refine⟨was,err,rfl,fun h0=>?_,FI,?_⟩
 .rcases hr with⟨-,h1,-⟩|⟨h1,-⟩
  .exact h1
  .omega
 .rcases hr with⟨h0,-,y',x',t2,eu,⟨P4,-⟩,-,hlk,I1,-⟩|⟨h0,ha,hD⟩
  .exact .inl ⟨h0,B,bd,y',x',t2,eu,P4,hB,FI.J0 (N6 U1.1.symm) hF,U1,I1.trans hG.1,hlk.first.trans hG.2⟩
  .exact .inr ⟨h0,ha,B,y,hD,⟨hB.1,hB.2.2⟩,FI.J0 (N6 U1.1.symm) hF,hM.dn hG.2⟩
def zl0 (h:Z7 w0 base bs bv bx P a N G t sp V)(hh:hash<18446744073709551616)(hN:N+3<=90000) :
  cP 66 #[O7 bx,iU hash] V (fun e w'=>∃ (c0 c1 c2:Int) (ok:Bool) (err:Int),e = rT (tU #[.agg #[iI c0,iI c1,iI c2],bO ok,iI err])/\(err=0->ok=(Mx t hash).isSome/\.agg #[iI c0,iI c1,iI c2]=vQ (Mx t hash))/\Rd w0 base bs bv bx P a (N+3) (N+3) G t sp V err w'):=by
 have iY:=h.high;obtain⟨B,bd,y,x,t',hT,rfl,hB,hF,U1,hG⟩:=h;obtain⟨E0,L,hM,-⟩:=hT.ex;refine (hT.find hh hN).mono ?_;rintro e w' ⟨c0,c1,c2,ok,err,rfl,F,hr⟩;have FI:D1 base V w':=by rw[<- hB.1];exact uR F
 refine⟨c0,c1,c2,ok,err,rfl,fun h0=>?_,FI,?_⟩
 .rcases hr with⟨-,h1,h2,-⟩|⟨h1,-⟩
  .obtain⟨p,dw⟩:=look_ok hh (show (bare t').high<=x.depth by rw[qM,hT.high];exact nR _) (by have:=hT.depth;omega) iY.2;have he:vR t' x.depth hash=(look (bare t') 0 hash).2:=by
    rw[sR0 hh (N6 hT.high) (by have:=hT.depth;omega),look_bare]
   rw[he] at h1 h2;rw[yX0 dw.2.1] at h2;rw[OR] at h1;exact⟨h1,h2⟩
  .omega
 .rcases hr with⟨h0,-,-,hI⟩|⟨h0,ha,hD⟩
  .exact .inl ⟨h0,B,bd,y,x,t',hI,rfl,hB,FI.J0 (N6 U1.1.symm) hF,U1,hG⟩
  .exact .inr ⟨h0,ha,B,y,hD,⟨hB.1,hB.2.2⟩,FI.J0 (N6 U1.1.symm) hF,hM.dn hG.2⟩
def wt0 (h:oU Z w0 base bs bv bx P false N G t sp V)(hN:N+12<=90000) :
  cP 71 #[O7 bx] V (fun e w'=>∃ (v:Value) (zs:List dm) (t':Tr),e = rT (tU #[v,iI 0])/\w'.ownsRow V 131 5 v zs.length (zs.flatMap cU)/\zs.map (·.s)=iJ t' t.high 0 0/\bare t'=t/\(∀ z ∈ zs,jN z w')/\oU Z w0 base bs bv bx P false (N+12) G t sp w'/\D1 base V w'):=by
 obtain⟨B,bd,y,x,t',hT,rfl,hB,hF,U1,hG,J1⟩:=h;rw[qM,hT.high];refine (mH0 hT hN).mono ?_;rintro e w' ⟨v,zs,rfl,F,ho,hm,hz,hI⟩;have FI:D1 base V w':=by rw[<- hB.1];exact uR F
 exact⟨v,zs,t',rfl,ho,hm,rfl,hz,⟨B,bd,y,x,t',hI,rfl,hB,FI.J0 (N6 U1.1.symm) hF,U1,hG,J1⟩,FI⟩
def WV (h:Z7 w0 base bs bv bx P a N G t sp V):cP 67 #[O7 bx] V (AA t.high V):=by
 obtain⟨B,bd,y,x,t',hT,rfl,-⟩:=h;obtain⟨E0,L,hM,-⟩:=hT.ex;rw[qM,hT.high];exact mI0 hM.idx hM.dir
def xG0 (h:Z7 w0 base bs bv bx P a N G t sp V):cP 31 #[pO bs] V (fun e w'=>e = rT (iI G)/\V=w'):=by
 obtain⟨B,bd,y,x,t',hT,rfl,⟨-,rfl,-⟩,-,-,⟨rfl,-⟩⟩:=h;obtain⟨E0,L,hM,-⟩:=hT.ex;exact Dp0 hM.st
end
def mo (l:Nat)(w0:w9)(base bs bv bx:Nat)(P:D4)(a:Bool)(N G:Nat)(t:Tr)(sp:Int)(rp rs:Int)(V:w9):Prop:=
 ∃ (B:P0) (bd:Nat) (y:Cs) (x:P1) (t':Tr),bR V B bx bd y P a N x t' sp/\bare t'=t/\(B.base=base/\B.s=bs/\B.d=bv)/\Fq w0 V/\(base=w0.heap.size/\base<=bx/\base<=bd)/\(y.gen=G/\y.first=12)/\nH l V B y P a N/\(x.rp=rp/\x.rs=rs)
section
variable {w0 V V':w9}{base bs bv bx N G l:Nat}{P:D4}{a:Bool}{t:Tr}{sp rp rs:Int}
def mo.kp (h:mo l w0 base bs bv bx P a N G t sp rp rs V):Z7 w0 base bs bv bx P a N G t sp V:=by
 obtain⟨B,bd,y,x,t',h1,h2,h3,h4,h5,h6,-⟩:=h;exact⟨B,bd,y,x,t',h1,h2,h3,h4,h5,h6⟩
def mo.J0 (h:mo l w0 base bs bv bx P a N G t sp rp rs V)(F:Fq V V'):mo l w0 base bs bv bx P a N G t sp rp rs V':=by
 obtain⟨B,bd,y,x,t',hT,h2,h3,h4,h5,h6,h7,h8⟩:=h;exact⟨B,bd,y,x,t',hT.J0 F,h2,h3,h4.trans F nI,h5,h6,h7.J0 F,h8⟩
def pu0 (h:Z7 w0 base bs bv bx P a N G t sp V)(hN:N+8<=90000) :
  cP 39 #[pO bs] V (fun e w'=>∃ err,e = rT (iI err)/\D1 base V w'/\((err=0/\∃ rp rs,mo 1 w0 base bs bv bx P a (N+8) G t sp rp rs w')\/(err=4/\a=true/\fp w0 base bv P (N+8) w'))):=by
 obtain⟨B,bd,y,x,t',hT,rfl,⟨hB,rfl,rfl⟩,hF,U1,hG⟩:=h;obtain⟨E0,L,hM,hP⟩:=hT.ex;have hp:=hM.places;refine (yA0 hM.st (by rw[hp];exact hN)).mono ?_;rintro e w' ⟨err,rfl,F,hr⟩;have FI:D1 base V w':=by rw[<- hB];exact uR F
 refine⟨err,rfl,FI,?_⟩;rcases hr with⟨h0,hL⟩|⟨h0,ha,hD⟩
 .rw[hp] at hL;exact .inl ⟨h0,x.rp,x.rs,B,bd,y,x,t',⟨⟨E0,L,hM.T1 F hL.c,hP⟩,hT.high,hT.ok⟩,rfl,⟨hB,rfl,rfl⟩,FI.J0 (N6 U1.1.symm) hF,U1,hG,hL,rfl,rfl⟩
 .rw[hp] at hD;exact .inr ⟨h0,ha,B,y,hD,⟨hB,rfl⟩,FI.J0 (N6 U1.1.symm) hF,hM.dn hG.2⟩
def tm0 (h:mo 1 w0 base bs bv bx P a N G t sp rp rs V)(hN:N+1<=90000) :
  cP 41 #[pO bv] V (fun e w'=>∃ err,e = rT (iI err)/\D1 base V w'/\((err=0/\mo 2 w0 base bs bv bx P a (N+1) G t sp rp rs w')\/(err=4/\a=true/\fp w0 base bv P (N+1) w'))):=by
 obtain⟨B,bd,y,x,t',hT,rfl,⟨hB,rfl,rfl⟩,hF,U1,hG,hl,hx⟩:=h;obtain⟨E0,L,hM,hP⟩:=hT.ex;refine (BF0 hl hN).mono ?_;rintro e w' ⟨F,hr⟩;have FI:D1 base V w':=by rw[<- hB];exact uR F
 rcases hr with⟨rfl,hL⟩|⟨rfl,ha,hD⟩
 .exact⟨0,rfl,FI,.inl ⟨rfl,B,bd,y,x,t',⟨⟨E0,L,hM.T1 F hL.c,hP⟩,hT.high,hT.ok⟩,rfl,⟨hB,rfl,rfl⟩,FI.J0 (N6 U1.1.symm) hF,U1,hG,hL,hx⟩⟩
 .exact⟨4,rfl,FI,.inr ⟨rfl,ha,B,y,hD,⟨hB,rfl⟩,FI.J0 (N6 U1.1.symm) hF,hM.dn hG.2⟩⟩
def tp0 (h:mo l w0 base bs bv bx P a N G t sp rp rs V):cP 76 #[O7 bx] V (YF rp rs V):=by
 obtain⟨B,bd,y,x,t',hT,rfl,-,-,-,-,-,⟨rfl,rfl⟩⟩:=h;obtain⟨E0,L,hM,-⟩:=hT.ex;exact xg0 hM.idx hM.dir
def MP (P:D4)(rp rs:Int)(t:Tr):Prop:=∃ (x:P1) (t':Tr),Gm P x t'/\bare t'=t/\(x.rp=rp/\x.rs=rs)
def mt0 (h:mo 2 w0 base bs bv bx P a N G t sp rp rs V)(hg:G<2199023255552) :
  cP 37 #[pO bs] V (fun e w'=>e = rT (tU #[])/\D1 base V w'/\∃ P':D4,Z7 w0 base bs bv bx P' a N (G+1) t sp w'/\MP P' rp rs t):=by
 obtain⟨B,bd,y,x,t',hT,rfl,⟨hB,rfl,rfl⟩,hF,U1,⟨rfl,hf⟩,hl,⟨rfl,rfl⟩⟩:=h;obtain⟨E0,L,hM,hP⟩:=hT.ex;have h8:=MC (show t'.high<=3 by rw[hT.high];exact hT.depth);refine (hM.yN0 hl (by rw[hP.length_eq,ER];exact h8) hg hf).mono ?_;rintro e w' ⟨rfl,F,n,P',Ug,hk⟩;have FI:D1 base V w':=by rw[<- hB];exact uR F
 exact⟨rfl,FI,P',⟨P0.next B n,bd,y.commit,x,t',⟨⟨E0,L,Ug,hP⟩,hT.high,hT.ok⟩,rfl,⟨hB,rfl,rfl⟩,FI.J0 (N6 U1.1.symm) hF,U1,⟨rfl,hf⟩⟩,x,t',⟨⟨y,E0,L,hM.c,hM.bk,hP,hM.live.1,hM.room,hk⟩,hT.high,hT.ok,hM.per⟩,rfl,rfl,rfl⟩
end
end
section
open Go.RowKit Go.Sg CP SF
def RbQ (d p:Int)(es:List Bt)(w:w9)(e:Ending)(w':w9):Prop:=∃ a c,e = rT (gH d p (sL a es.length c))/\t8 w' 0 (sL a es.length c) es/\Fq w w'
def yJ0 {k q:Nat}(hk:k<1048576):wrap64 ((k:Int)/(q:Int))=((k/q:Nat):Int):=by
 have h2:=Mn k q;rw[<- Int.natCast_ediv];generalize k/q=qq at *;simp only[wrap64];omega
variable {V w:w9}{es:List Bt}{v:Value}
def BO0 {W':w9}{z:Nat}{d p:Int}{a:Option Addr}{c:Nat}{v0 v1 v2:Value}{c0:Array Value}(hz:w.heap.size=z)(hF:Fq w V)(h0:V.heap[z+1]?=some (.cells c0 220))(hE:t8 w 0 (sL a es.length c) es)
  (hW:((V.setCell (aA (z+1) 0) v0).setCell (aA (z+1) 1) v1).setCell (aA (z+1) 2) v2=W'):RbQ d p es w (rT (gH d p (sL a es.length c))) W':=by
 have F:Fr (fun b=>b=z+1) V W':=by rw[<- hW];with_reducible (repeat (first|exact fR|refine Fr.setCell ?_ (fun _=>by simp) _))
 have FW:Fq w W':=hF.trans F fun b hb e=>oM;exact⟨a,c,rfl,oN hE FW,FW⟩
def wD0 {l:Lb}(hB:OwnB w 0 v l)(hl:l.length<=60000)(g:Nat)(UX:g<=20)(most slots sp:Int)(k0:Nat)(iX:k0<1048576)(hd:∀ b ∈ l,b.1<=g){i:Nat}{b:Nat × Nat × List Bt}(hi:l.findIdx? (DW g k0)=some i)(hb:l[i]?=some b) :
  cP 152 #[ai g most slots v sp,iI k0] w (RbQ b.1 b.2.1 b.2.2 w):=by
 obtain⟨xs,rfl,hR,hE⟩:=hB;obtain⟨va,vc,rfl,-,-,-,-⟩:=A2 hR;obtain⟨n,hn⟩:=eX xs.length
 obtain⟨xb,dR,rfl⟩:=QQ hb;obtain⟨w1,I0⟩:=eX ((w.alloc (.cells #[iI g,iI most,iI slots,sL va n vc,iI sp] 137)).alloc (.cells #[iI 0,iI 0,sL none 0 0] 220))
 obtain⟨z,hz⟩:=eX w.heap.size
 obtain⟨b0,b1,F1⟩:=n9 I0;rw[hz] at b0 b1;have E3:w1.heap.size=z+2:=by rw[<- I0,<- hz];simp
 have Ci:=oN hR F1;have Cg:i<n/\(∀ x,xs[i]?=some x->k0/2^(g-x.d)=x.p)/\∀ k x,k<i->xs[k]?=some x->k0/2^(g-x.d)≠x.p:=by
  rw[ox] at hi;obtain⟨h1,h2,h3⟩:=hi;rw[Z8] at h1;refine⟨oM,fun x hx=>?_,fun k x hk hx=>?_⟩
  .obtain⟨_,e⟩:=gI.1 hx;simpa[DW,e,Rb.key] using h2
  .obtain⟨_,e⟩:=gI.1 hx;simpa[DW,e,Rb.key] using h3 k hk
 have hdd:∀ (k:Nat) (x:Rb),xs[k]?=some x->x.d<=g:=fun k x hx=>hd x.key (N4.2 ⟨x,gM hx,rfl⟩)
 rw[Z8,hn] at hl;rw[hn] at Ci ⊢;have oI:=hid fun V (F:Fq w1 V)=>aI (cells5 (F.heap b0 id)) (F.heap b1 id);have HR:=hid Ci;have HN:=hid hn;have HF:=hid F1;have HW:=hid I0;have HI:=hid Cg;have HD:=hid hdd;have HZ:=hid hz;have HS:=hid E3;have HX:=hi2 dR (hE xb (gM dR));have T4:=Cg.1;obtain⟨⟨x0,x1,x2,x3,x4,xz,xl⟩,-⟩:=oI.o _ fR;clear hR hn F1 I0 b0 b1 Ci Cg hdd hd hi hz E3 hE dR hb;go_enter func152,ntmps152;go_upto_region 1 with fail
 rw[HW];try simp only[HZ.o]
 clear x0 x1 x2 x3 x4 xz xl;go_wp2_with fail
 go_loopw [5] (fun iv wr=>∃ k:Nat,k<=i/\iv = iI k/\Fq w1 wr) fun iv _=>n-(intOf iv).toNat
 case atStart=>exact⟨0,C3 _,rfl,fR⟩
 case round =>
  obtain⟨k,hk,rfl,hF⟩:=hrel;have hd:decide ((k:Int)<(n:Int))=true:=by simp;omega
  have cF:(k:Int)<(n:Int):=oM
  have fL:wrap64 ((k:Int)+1)=((k+1:Nat):Int):=rY oM;obtain⟨x,hx⟩:∃ x,xs[k]?=some x:=⟨_,gE (by rw[HN.o];omega)⟩
  have hxd:=HD.o k x hx;obtain⟨gb,rfl,hg,c0,c1,c2⟩:=LL (oN HR.o hF) hx;obtain⟨s,hs⟩:=eX wr.heap.size
  have hsz:z+2<=s:=by rw[<- hs,<- HS];exact hF.size
  obtain⟨V3,T8⟩:=eX (wr.alloc (.cells #[iI x.d,iI x.p,x.v] 220))
  have b3:V3.heap[s]?=some (.cells #[iI x.d,iI x.p,x.v] 220):=by rw[<- T8,<- hs];exact han _ _
  have F3:=fA T8
  have AO:=hid fun V (F:Fq V3 V)=>aI (oI V ((hF.trans F3 nI).trans F nI)) (cells3 (F.heap b3 id));obtain⟨⟨x0,x1,x2,x3,x4,xz,xl⟩,-⟩:=oI.o _ hF;have SY:=hid hx;have H3:=hid (hF.trans F3 nI);have Bq:=hid T8;have SK:=hid hs;clear hx hF T8 F3 b3 hs;go_upto_region 5 with fail
  rw[Bq];try simp only[SK.o]
  clear x0 x1 x2 x3 x4 xz xl c0 c1 c2 hg;obtain⟨⟨⟨x0,x1,x2,x3,x4,xz,xl⟩,-⟩,y0,y1,y2,yz,yl⟩:=AO.o _ fR;go_wp2_with fail
  go_loopw [7,8] (fun lv mv wr2=>∃ m lw:Nat,x.d<=m/\m<=g/\lw=2^(m-x.d)/\mv = iI m/\lv = iI lw/\wr2=V3) fun _ mv _=>g-(intOf mv).toNat
  case atStart=>exact⟨x.d,1,nR _,hxd,by rw[DT],rfl,rfl,rfl⟩
  case round =>
   obtain⟨m,lw,vw,ew,zO,rfl,rfl,rfl⟩:=hrel;obtain⟨V3,rfl⟩:∃ W:World,W=wr:=⟨_,rfl⟩
   have HL:=hid zO;clear zO;have Df:m<=20:=nT ew UX;have xB:lw<=1048576:=by rw[HL];exact nT (aZ dC (nT (Nat.sub_le _ _) Df)) dC
   by_cases hlt:m<g
   .have zY:(m:Int)<(g:Int):=Int.ofNat_lt.2 hlt;have wj:=hid (show lw*2=2^(m+1-x.d) by rw[HL,<- dB];congr 1;exact (Nat.succ_sub vw).symm);clear fL;go_wp2_with fail
    go_roundw;case rel=>exact⟨m+1,lw*2,Qn vw,hlt,wj.o,by go_num,by go_num,trivial⟩
    case measure=>exact wM
   .obtain rfl:m=g:=Nat.le_antisymm ew (Nat.le_of_not_lt hlt);have jB:decide ((m:Int)<(m:Int))=false:=sP;have xA:0<lw:=(by rw[HL];exact iu dC);have Kf:(lw:Int)≠0:=fun e=>gG 0 (by rw[<- Int.natCast_eq_zero.1 e] at xA ⊢;exact xA)
    have HQ:=hid (yJ0 (q:=lw) iX);go_wp2_with fail
    go_quiet (fail)
    rw[HQ];have H4:=hid (H3.trans ((Fr.refl (fun _=>False) V3).drewN nq) nI);have Ew:=hid (AO.o _ ((Fr.refl (fun _=>False) V3).drewN nq));clear x0 x1 x2 x3 x4 xz xl y0 y1 y2 yz yl;rcases jL k i with Dd|cE
    .have gm:(((k0/lw:Nat):Int) == ((x.p:Nat):Int))=false:=(by rw[BN,HL];exact decide_eq_false (HI.2.2 k x Dd SY.o));clear xA Kf xB Df jB;go_wp2_with fail
     go_roundw;case rel=>exact⟨k+1,Dd,by go_num,H4.o⟩
     case measure=>exact wM
    .obtain rfl:k=i:=Nat.le_antisymm hk cE;have gm:(((k0/lw:Nat):Int) == ((x.p:Nat):Int))=true:=(by rw[BN,HL];exact decide_eq_true (HI.2.1 x SY.o));obtain rfl:x=xb:=by have:=HX.1;rw[SY] at this;exact Option.some.inj this
     have cX:=(oI.o _ H4.o).2;obtain⟨t0,t1,t2,tz,tl⟩:=cells3 cX;obtain⟨-,y0,y1,y2,yz,yl⟩:=Ew.o;have T5:=hid cX;clear xA Kf xB Df jB cX;go_wp2_with fail
     refine bodyPost_ret (v:=gH x.d x.p x.v) sR rfl ?_;exact BO0 HZ.o (HF.trans H4.o nI) T5.o HX.2 rfl
def oP0 (F:Fq w V){g j:Nat}{u0 u1 u2 u3:Value}(hg:g<w)(h0:w.cell? (aA g j)=some u0)(h1:w.cell? (aA g (j+1))=some u1)(h2:w.cell? (aA g (j+2))=some u2)(h3:w.cell? (aA g (j+3))=some u3) :
  V.cell? (aA g j)=some u0/\V.cell? (aA g (j+1))=some u1/\V.cell? (aA g (j+2))=some u2/\V.cell? (aA g (j+3))=some u3/\g<V:=
 ⟨(F.cell (p:=⟨g,_,none⟩) hg id).trans h0,(F.cell (p:=⟨g,_,none⟩) hg id).trans h1,(F.cell (p:=⟨g,_,none⟩) hg id).trans h2,(F.cell (p:=⟨g,_,none⟩) hg id).trans h3,E4 hg F.size⟩
def Ba0 (x:Bt)(w:w9):(binOp .neq 118 (E8 x) (E8 x)).run prog w = .ok (bO false) w:=by
 have h:prog.underlying 118=_:=underlying118;go_simp
def Aw0 {v':Value}(hE:Y3 w 0 v es)(hF:t8 w 0 v' es)(hl:es.length<=60000)(d p:Int) :
  cP 151 #[E9 d p v,gH d p v'] w (bt (bO true) w):=by
 obtain⟨va,vc,rfl,-,-,-,-⟩:=A2 hE;obtain⟨ua,uc,rfl,-,-,-,-⟩:=A2 hF;obtain⟨n,hn⟩:=eX es.length
 obtain⟨w1,I0⟩:=eX ((w.alloc (.cells #[iI d,iI p,sL va n vc] 129)).alloc (.cells #[iI d,iI p,sL ua n uc] 220))
 obtain⟨z,hz⟩:=eX w.heap.size
 obtain⟨b0,b1,F1⟩:=n9 I0;rw[hz] at b0 b1;have oI:=hid fun V (F:Fq w1 V)=>aI (cells3 (F.heap b0 id)) (cells3 (F.heap b1 id));have HE:=hi2 hE hF;rw[hn] at HE hl ⊢;have HN:=hid hn;have HF:=hid F1;have HW:=hid I0;have HZ:=hid hz;obtain⟨⟨x0,x1,x2,xz,xl⟩,y0,y1,y2,yz,yl⟩:=oI.o _ fR;have eA:((d:Int) == d)=true:=by simp
 clear hE hF hn F1 I0 b0 b1 hz;go_enter func151,ntmps151;go_upto_region 1 with fail
 rw[HW];try simp only[HZ.o]
 go_wp2_with fail
 go_loopw [5] (fun iv wr=>∃ k:Nat,k<=n/\iv = iI k/\Fq w1 wr) fun iv _=>n-(intOf iv).toNat
 case atStart=>exact⟨0,C3 _,rfl,fR⟩
 case round =>
  obtain⟨k,hk,rfl,hF⟩:=hrel;clear x0 x1 x2 xz xl y0 y1 y2 yz yl;obtain⟨⟨x0,x1,x2,xz,xl⟩,y0,y1,y2,yz,yl⟩:=oI.o _ hF;have gL:=hid hF;clear hF;by_cases hlt:k<n
  .have hd:decide ((k:Int)<(n:Int))=true:=by simp;omega
   have cF:(k:Int)<(n:Int):=oM
   have fL:wrap64 ((k:Int)+1)=((k+1:Nat):Int):=rY oM;obtain⟨x,hx⟩:∃ x,es[k]?=some x:=⟨_,gE (by rw[HN.o];exact hlt)⟩
   have Z5:=oN HE.1 (HF.trans gL.o nI);have qV:=oN HE.2 (HF.trans gL.o nI);rw[HN] at qV;obtain⟨ga,rfl,xv,c0,c1,c2,c3⟩:=qO qV hx;rw[<- HN] at Z5;obtain⟨gb,rfl,bz,e0,e1,e2,e3⟩:=pj Z5 hx;have HC:=hid fun V (F:Fq wr V)=>aI (oI V (gL.trans F nI)) (aI (oP0 F xv c0 c1 c2 c3) (oP0 F bz e0 e1 e2 e3));have hne:∀ W,(binOp .neq 118 (.agg #[iU x.hash,iI x.rg,iI x.at_,iI x.sz]) (.agg #[iU x.hash,iI x.rg,iI x.at_,iI x.sz])).run prog W = .ok (bO false) W:=Ba0 x
   have FD:=(Fr.refl (fun _=>False) wr).drew;clear Z5 qV hx;go_upto_region 6 with fail
   clear x0 x1 x2 xz xl y0 y1 y2 yz yl c0 c1 c2 c3 xv e0 e1 e2 e3 bz fL;refine wp_region_noPanic ?_;refine q8 (fun V=>Fq wr V) (.rd 0 (.rd 1 (.rd 2 (.rd 3 (.rd 4 (.rd 5 (.rd 6 (.rd 7 (.rd 8 (.rd 9 (.op 10 (.rd 11 .done)))))))))))) kF kF kF (fun _ _ _ _ _ h=>h) FD ?_;iterate 10
    refine oP ?_ ?_ ?_;rotate_left
    .intro V hV;obtain⟨⟨⟨x0,x1,x2,xz,xl⟩,y0,y1,y2,yz,yl⟩,⟨c0,c1,c2,c3,xv⟩,e0,e1,e2,e3,bz⟩:=HC.o V hV;go_simp;try with_reducible rfl
   refine rQ fun K hK=>?_
   (with_reducible refine (NV x _).mono ?_)
   rintro _ V1 ⟨rfl,G1⟩;have F1:=FD.trans G1 nI;refine hK _ _ F1 ?_;clear hK K;refine oR ?_
   refine o5 ?_;refine NoPanic.normal ?_;try simp only[Act.put,sI,sZ,sS]
   have H1:=hid (gL.trans F1 nI);clear F1 G1 FD;go_wp2_with fail
   go_roundw;case rel=>exact⟨k+1,hlt,by go_num,H1.o⟩
   case measure=>exact wM
  .obtain rfl:k=n:=by omega
   have hd:decide ((k:Int)<(k:Int))=false:=by simp
   go_wp2_with fail
   go_ret;exact⟨rfl,HF.trans gL.o nI⟩
end
section
open Go.RowKit Go.Sg Go.Sg.Bits Go.Sg.r4 CP SF
variable {base:Nat}{v:Value}
def OwnB.fZ {w w':w9}{b:Nat}{l:Lb}(h:OwnB w b v l)(F:D1 base w w'):OwnB w' b v l:=by
 obtain⟨xs,h1,h2,h3⟩:=h;exact⟨xs,h1,D1.own h2 dC F,fun x hx=>D1.own (h3 x hx) dC F⟩
def nK0 {w0 w:w9}{bs bv bx N G:Nat}{P:D4}{t:Tr}{sp sp':Int}{Z:Cs->Prop}(h:oU Z w0 base bs bv bx P false N G t sp w)(hB:OwnB w 0 v (rows t 0 0))(hb:base<=w)(hN:N+12<=90000) :
  cP 79 #[O7 bx,ai t.high 3 3 v sp'] w (fun e w'=>e = rT (bO true)/\oU Z w0 base bs bv bx P false (N+12) G t sp w'/\D1 base w w'):=by
 obtain⟨Q3,hok⟩:=h.kp.high;obtain⟨va,vc,rfl⟩:=hB.slice;obtain⟨n,hn⟩:=eX ((rows t 0 0).length)
 have vC:n<=8:=by rw[<- hn,OK];exact MC Q3
 obtain⟨g,hg⟩:=eX t.high
 rw[hg,hn];rw[hn] at hB;obtain⟨w1,I0⟩:=eX (w.alloc (.cells #[iI g,iI 3,iI 3,sL va n vc,iI sp'] 137))
 have F1:=fA I0
 obtain⟨z0,J1⟩:=eX w.heap.size
 have b3:w1.heap[z0]?=some (.cells #[iI g,iI 3,iI 3,sL va n vc,iI sp'] 137):=by rw[<- I0,<- J1];exact han _ _
 have kS:=hid (wt0 (h.J0 F1) hN);have HW:=hid I0;have HT:=hi2 hok (aI hn (aI hg (aI hB (aI F1 b3))));have HZ:=hid J1;clear h hok hn hB I0 F1 b3;go_enter func79,ntmps79;go_upto_region 1 with fail
 rw[HW];try simp only[HZ.o]
 go_wp2_with fail
 refine kS.mono ?_;rintro e V2 ⟨v6,zs,t',rfl,A0,xE,td,dw,hK,FI⟩;obtain⟨sa,sc,rfl,-,-,-,-⟩:=A2 A0;obtain⟨m,hm⟩:=eX zs.length
 have vq:t'.high=g:=by rw[<- qM,td,HT.2.2.1]
 rw[HT.2.2.1] at xE;have Vw:2^g=m:=by
  have:=congrArg List.length xE;rw[Z8,hm,Il _ _ _ _ (N6 vq)] at this;exact this.symm
 have Vv:m<=8:=by rw[<- Vw];exact nT (aZ dC (by rw[<- HT.2.2.1];exact Q3)) dC
 have iA:=hid fun V (F:Fq V2 V)=>WV (hK.J0 F).kp;rw[HT.2.2.1] at iA;rw[hm];have BV:=(HT.2.2.2.1.fr HT.2.2.2.2.1).fZ FI;have L4:V2.heap[z0]?=some (.cells #[iI g,iI 3,iI 3,sL va n vc,iI sp'] 137):=FI.heap HT.2.2.2.2.2 dC;have HI:=hid fun V (F:Fq V2 V)=>cells5 (F.heap L4 id);have tQ:rows t 0 0=rows t' 0 0:=by rw[<- td,Wy]
 have oL:=hid (fun (q:Nat) (hq:q<m)=>show ∃ (gb:Nat) (z:dm) (d p:Nat) (r:Rf) (es:List Bt),sa=some ⟨gb,0,none⟩/\(z.s=(d,p,r,es)/\Y3 V2 0 (sL z.va es.length z.vc) es/\es.length<=3/\∃ i,(rows t 0 0).findIdx? (DW g q)=some i/\(rows t 0 0)[i]?=some (d,p,es))/\∀ V,Fq V2 V->gb<V.heap.size/\V.cell? (aA gb (q*5+2))=some (iI d)/\V.cell? (aA gb (q*5+3))=some (iI p)/\V.cell? (aA gb (q*5+4))=some (sL z.va es.length z.vc) by
  obtain⟨z,hz⟩:∃ z,zs[q]?=some z:=⟨_,gE oM⟩
  have hs:=Oo t' g q 0 0 (N6 vq) oM;rw[<- xE,gP,hz] at hs;obtain⟨⟨d,p,r,es⟩,fO⟩:∃ s,t'.at_ g q 0 0=s:=⟨_,rfl⟩
  have dA:z.s=(d,p,r,es):=by rw[<- fO];exact Option.some.inj hs
  obtain⟨i,hi1,hi2⟩:=xt0 (show q<2^g by omega) (N6 vq) oM fO;obtain⟨hE,cC⟩:=dw z (gM hz);obtain⟨gb,rfl,bz,k2⟩:=d8 A0 (jt (f:=cU) (s:=5) (fun _=>rfl) zs q 2 z hz dC);obtain⟨g',e',-,k3⟩:=d8 A0 (jt (f:=cU) (s:=5) (fun _=>rfl) zs q 3 z hz dC);cases e';obtain⟨g',e',-,k4⟩:=d8 A0 (jt (f:=cU) (s:=5) (fun _=>rfl) zs q 4 z hz dC);cases e';rw[dA] at hE cC;simp only[dA] at k2 k3 k4;exact⟨gb,z,d,p,r,es,rfl,⟨dA,hE,cC.1,i,by rw[tQ];exact hi1,by rw[tQ];exact hi2⟩,fun V F=>⟨E4 bz F.size,(F.cell (p:=⟨gb,_,none⟩) bz id).trans k2,(F.cell (p:=⟨gb,_,none⟩) bz id).trans k3,(F.cell (p:=⟨gb,_,none⟩) bz id).trans k4⟩⟩)
 have aa:=hi2 hK FI;have ZZ:=hi2 Vw BV;clear A0 xE td vq dw hK FI hm Vw BV L4 tQ kS;go_wp2_with fail
 go_loopw [7,8] (fun mv iv wr=>∃ q z:Nat,q<=g/\z=2^q/\mv = iI z/\iv = iI q/\wr=V2) fun _ iv _=>g-(intOf iv).toNat
 case atStart=>exact⟨0,1,C3 _,rfl,rfl,rfl,rfl⟩
 case round =>
  obtain⟨q,z,hq,hz,rfl,rfl,rfl⟩:=hrel;obtain⟨i0,i1,i2,i3,i4,iz,il⟩:=HI.o _ fR;have LD:z<=8:=by rw[hz];exact nT (aZ dC (show q<=3 by omega)) dC
  have HZz:=hid hz;clear hz;by_cases zW:q<g
  .have zY:(q:Int)<(g:Int):=by omega
   have Ta:=hid (show z*2=2^(q+1) by rw[HZz,dB]);go_wp2_with fail
   go_roundw;case rel=>exact⟨q+1,z*2,zW,Ta.o,by go_num,by go_num,trivial⟩
   case measure=>exact wM
  .obtain rfl:q=g:=by omega
   have zY:¬ (q:Int)<(q:Int):=oM
   obtain rfl:z=m:=by rw[HZz.o];exact ZZ.1
   obtain⟨V2,rfl⟩:∃ W:World,W=wr:=⟨_,rfl⟩
   have hzz:((z:Int) != (z:Int))=false:=by simp
   have FD:=(Fr.refl (fun _=>False) V2).drew;have xw:((q:Int) != (q:Int))=false:=by simp
   go_upto_region 7 with fail
   clear i0 i1 i2 i3 i4 iz il;refine wp_region_noPanic ?_;refine q8 (fun V=>Fq V2 V) (.rd 0 (.rd 1 (.rd 2 (.rd 3 (.rd 5 (.rd 6 (.op 4 (.rd 7 (.rd 8 (.rd 9 (.rd 10 (.rd 11 (.rd 12 (.rd 13 (.rd 14 .done))))))))))))))) kF kF kF (fun _ _ _ _ _ h=>h) FD ?_;iterate 6
    refine oP ?_ ?_ ?_;rotate_left
    .intro V hV;obtain⟨i0,i1,i2,i3,i4,iz,il⟩:=HI.o V hV;go_simp;try with_reducible rfl
   refine rQ fun K hK=>?_
   (with_reducible refine (iA.o _ FD).mono ?_)
   rintro _ _ ⟨rfl,rfl⟩;refine hK _ _ FD ?_;clear hK K;iterate 8
    refine oR ?_
   refine o5 ?_;refine NoPanic.normal ?_;try simp only[Act.put,sI,sZ,sS]
   go_wp2_with fail
   go_loopw [9] (fun iv wr=>∃ i:Nat,i<=z/\iv = iI i/\Fq V2 wr) fun iv _=>z-(intOf iv).toNat
   case atStart=>exact⟨0,C3 _,rfl,FD⟩
   case round =>
    obtain⟨wo,rfl⟩:∃ W:World,W=wr:=⟨_,rfl⟩
    obtain⟨i,T4,rfl,qW⟩:=hrel;by_cases hlt:i<z
    .have xy:(i:Int)<(z:Int):=oM;obtain⟨gb,zz,d,p,r,es,rfl,⟨dA,hE,hes,j,Fj,CY⟩,hce⟩:=oL.o i hlt;obtain⟨n3,pN⟩:=eX es.length
     have X3:=fun V (F:Fq V2 V)=>wD0 (ZZ.2.fr F) (by rw[HT.2.1];omega) q oM 3 3 sp' i oM (fun b hb=>by have:=rows_ok HT.1 b hb;have:=HT.2.2.1;omega) Fj CY
     have SJ:=hid X3;have HS:=hi2 hE (aI hes pN);have HC:=hid fun V (F:Fq V2 V)=>aI (HI V F) (hce V F);have RV:=hid qW;have AE:Fq V2 wo.drew:=qW.drew;rw[pN] at HC;clear dA hE hes Fj CY hce pN X3 qW FD;go_upto_region 12 with fail
     refine wp_region_noPanic ?_;refine q8 (fun V=>Fq V2 V) (.rd 0 (.rd 1 (.rd 2 (.rd 3 (.rd 4 (.rd 5 (.rd 6 (.op 7 (.op 8 (.rd 9 .done)))))))))) kF kF kF (fun _ _ _ _ _ h=>h) AE ?_;iterate 7
      refine oP ?_ ?_ ?_;rotate_left
      .intro V hV;obtain⟨⟨i0,i1,i2,i3,i4,iz,il⟩,hg,c2,c3,c4⟩:=HC.o V hV;go_simp;try with_reducible rfl
     refine rQ fun K hK=>?_
     (with_reducible refine (SJ.o _ AE).mono ?_)
     rintro _ W1 ⟨ua,uc,rfl,qV,G1⟩;have F1:=AE.trans G1 nI;refine hK _ _ F1 ?_;clear hK K;have Wb:=Aw0 (w:=W1) (d:=d) (p:=p) (oN HS.1 F1) qV (by have:=HS.2.1;omega);rw[HS.2.2] at Wb;have HTd:=hid Wb;clear Wb qV;simp only[HS.2.2];refine rQ fun K hK=>?_
     (with_reducible refine HTd.o.mono ?_)
     rintro _ W2 ⟨rfl,G2⟩;have F2:=F1.trans G2 nI;refine hK _ _ F2 ?_;clear hK K;refine oR ?_
     refine o5 ?_;refine NoPanic.normal ?_;try simp only[Act.put,sI,sZ,sS]
     have H2:=hid F2;clear F1 F2 G1 G2 AE;go_wp2_with fail
     go_roundw;case rel=>exact⟨i+1,hlt,by go_num,H2.o⟩
     case measure=>exact wM
    .obtain rfl:i=z:=by omega
     have xy:¬ (i:Int)<(i:Int):=oM;have HE:=hi2 (aa.1.J0 qW) (D1.trans (D1.none HT.2.2.2.2.1) (D1.trans aa.2 (D1.none qW)));clear qW FD;go_wp2_with fail
     go_ret;exact⟨rfl,HE.o⟩
