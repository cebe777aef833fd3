/- A pack of texts. Conditions: those that each names. -/
import Derived.Test.YtgdhaaokolfdoaaGreatDoorNBN
set_option maxHeartbeats 16000000
set_option maxRecDepth 100000
set_option linter.all false
namespace Go.Proofs.YtgdhaaokolfdoaaGreatDoor
section
open Go.RowKit Go.Sg CP SF
def rows:Tr->Nat->Nat->Lb
 | .leaf _ es,d,p=>[(d,p,es)]
 | .node l r,d,p=>rows l (d+1) (2*p)++rows r (d+1) (2*p+1)
theorem ic0:∀ (t:Tr) (d p:Nat),rows (bare t) d p=rows t d p
 | .leaf _ _,_,_=>rfl
 | .node l r,d,p=>by simp only[bare,rows,ic0 l,ic0 r]
theorem kh0:∀ (t:Tr) (d p:Nat),rows t d p=(lvs t d p).map fun s=>(s.1,s.2.1,s.2.2.2)
 | .leaf _ _,_,_=>rfl
 | .node l r,d,p=>by simp only[rows,lvs,lt9,kh0 l,kh0 r]
theorem gg0:∀ (t:Tr) (d p:Nat),(rows t d p).length=t.refs.length
 | .leaf _ _,_,_=>rfl
 | .node l r,d,p=>by simp only[rows,Tr.refs,lA,gg0 l,gg0 r]
theorem gf0:∀ (t:Tr) (d p:Nat) (b:Nat × Nat × List Bt),b ∈ rows t d p->d<=b.1/\b.1<=d+t.high/\b.2.1/2^(b.1-d)=p
 | .leaf _ es,d,p,b,hb=>by
  simp only[rows,lQ9] at hb;subst hb;simp
 | .node l r,d,p,b,hb=>by
  have key:∀ q,d+1<=b.1->b.2.1/2^(b.1-(d+1))=q->b.2.1/2^(b.1-d)=q/2:=fun q h1 h2=>by
   rw[<- h2,lX9,<- lK9,show (b.1-(d+1)).succ=b.1-d by omega]
  simp only[rows,lb9] at hb;simp only[Tr.high];rcases hb with hb|hb
  ·obtain⟨h1,h2,h3⟩:=gf0 l _ _ b hb;exact⟨oM,oM,by rw[key _ h1 h3];omega⟩
  ·obtain⟨h1,h2,h3⟩:=gf0 r _ _ b hb;exact⟨oM,oM,by rw[key _ h1 h3];omega⟩
variable {t:Tr}{d g h i k p:Nat}
theorem rows_ok (h:okT t 0 0):∀ b ∈ rows t 0 0,dn0 b.1 b.2.1 b.2.2/\b.2.1<2^b.1/\b.1<=t.high:=fun b hb=>by
 rw[kh0] at hb;obtain⟨s,hs,rfl⟩:=ld9.1 hb;obtain⟨h1,h2,-,h4⟩:=nC0 t 0 0 h dC s hs;exact⟨h1,h2,oM⟩
theorem kg0 (h:okT t 0 0)(hh:t.high<=3):∀ b ∈ rows t 0 0,OkB b:=fun b hb=>by
 obtain⟨h1,h2,h3⟩:=rows_ok h b hb;exact⟨oM,h2,by have:=h1.1;omega,h1.2.1,fun x hx=>(h1.2.2 x hx).1.1⟩
variable {b:Nat × Nat × List Bt}
theorem wM0 (hh:h<18446744073709551616)(hb:b ∈ rows t d p)(h20:d+t.high<=20)(hi:dL0 h b=true):aY0 h d=p:=by
 obtain⟨h1,h2,h3⟩:=gf0 t d p b hb;have e:aY0 h b.1=b.2.1:=by simpa[dL0] using hi
 rw[<- h3,<- e,ij0 oM h1 hh]
theorem nr0 {h:Nat}(hh:h<18446744073709551616):∀ (t:Tr) (g k d p:Nat),t.high<=g->d+g<=20->aY0 h (d+g)=p*2^g+k->k<2^g ->
  ∃ A C,(∀ f,rows (t.put g k f) d p=A++(rows (f (t.at_ g k d p).2.2.1 (t.at_ g k d p).2.2.2) (t.at_ g k d p).1 (t.at_ g k d p).2.1++C))/\(∀ b ∈ A,dL0 h b=false)/\aY0 h (t.at_ g k d p).1=(t.at_ g k d p).2.1
 | .leaf r es,g,k,d,p,_,h20,hp,hk=>by
  refine⟨[],[],fun f=>by simp[Tr.put,Tr.at_],fun b hb=>by (cases hb),?_⟩;have:=ij0 (h:=h) (g:=d+g) (d:=d) h20 oM hh;rw[show d+g-d=g by omega,hp,lJ9,Nat.mul_add_div (lW9 dC),mu9 hk] at this;exact this.symm
 | .node l r,g,k,d,p,hg,h20,hp,hk=>by
  simp only[Tr.high] at hg;have h2:=Tr.ce0 (g:=g) oM;have hd:=ij0 (h:=h) (g:=d+g) (d:=d+1) h20 oM hh;rw[show d+g-(d+1)=g-1 by omega,hp] at hd;have hq:p*2^g=2^(g-1)*(2*p):=by rw[h2,mA9,lJ9 p];rw[<- Nat.two_mul,Nat.mul_left_comm]
  by_cases hlt:k<2^(g-1)
  ·obtain⟨A,C,h1,h3,h4⟩:=nr0 hh l (g-1) k (d+1) (2*p) oM oM (by rw[show d+1+(g-1)=d+g by omega,hp,hq,lJ9]) hlt;refine⟨A,C++rows r (d+1) (2*p+1),fun f=>?_,h3,?_⟩
   ·simp only[Tr.put,Tr.at_,if_pos hlt,rows];rw[h1 f];simp
   ·simp only[Tr.at_,if_pos hlt];exact h4
  ·have hk2:k-2^(g-1)<2^(g-1):=by omega
   obtain⟨A,C,h1,h3,h4⟩:=nr0 hh r (g-1) (k-2^(g-1)) (d+1) (2*p+1) oM oM (by rw[show d+1+(g-1)=d+g by omega,hp,hq,nj9,lJ9 (2*p)];omega) hk2;refine⟨rows l (d+1) (2*p)++A,C,fun f=>?_,fun b hb=>?_,?_⟩
   ·simp only[Tr.put,Tr.at_,if_neg hlt,rows];rw[h1 f];simp
   ·rcases lb9.1 hb with hb|hb
    ·cases hi:dL0 h b with
     | false=>rfl
     | true =>
      have e:=wM0 hh hb oM hi;rw[e,hq,Nat.mul_add_div (lW9 dC)] at hd;have:1<=k/2^(g-1):=(mQ9 (lW9 dC)).2 oM;omega
    ·exact h3 b hb
   ·simp only[Tr.at_,if_neg hlt];exact h4
variable {r:Rf}{es:List Bt}
theorem id0 (hh:h<18446744073709551616)(hg:t.high<=g)(h20:g<=20)(hz:t.at_ g (aY0 h g) 0 0=(d,p,r,es)) :
  ∃ i,(rows t 0 0).findIdx? (dL0 h)=some i/\(rows t 0 0)[i]?=some (d,p,es)/\aY0 h d=p/\∀ f,rows (t.put g (aY0 h g) f) 0 0=rep (rows t 0 0) i (rows (f r es) d p):=by
 obtain⟨A,C,h1,h2,h3⟩:=nr0 hh t g (aY0 h g) 0 0 hg oM (by rw[lp9];omega) (ii0 h20 hh);rw[hz] at h1 h3;simp only at h1 h3;have e:=h1 Tr.leaf;rw[dt0] at e;simp only[rows] at e;have hb:dL0 h (d,p,es)=true:=decide_eq_true h3;refine⟨A.length,?_,?_,h3,fun f=>?_⟩
 ·rw[e,List.findIdx?_append,lE9.2 h2];simp[lS9,hb]
 ·rw[e,lk9 (nR _)];simp
 ·have e1:(A++([(d,p,es)]++C)).take A.length=A:=List.take_left ..;have e2:(A++([(d,p,es)]++C)).drop (A.length+1)=C:=by rw[<- lm9,show A.length+1=(A++[(d,p,es)]).length by simp,List.drop_left]
  rw[h1 f,e];unfold rep;rw[e1,e2,lm9]
theorem mW0 (h:dn0 d p es)(hd:d<20)(r:Rf)(es0:List Bt):rows (dW0 d es r es0) d p=halves (d,p,es) es:=by
 have key:∀ x ∈ es,bX0 d (2*p) x = !be0 d x/\bX0 d (2*p+1) x=be0 d x:=fun x hx=>by
  obtain⟨hg,hp⟩:=h.2.2 x hx;have h1:=eH0 hd hg.1;simp only[bX0,be0];rcases Nat.mod_two_eq_zero_or_one (aY0 x.hash (d+1)) with e|e
  ·exact⟨by rw[decide_eq_true (show aY0 x.hash (d+1)=2*p by omega),decide_eq_false (show ¬ _ by omega)];rfl,by rw[decide_eq_false (show ¬ aY0 x.hash (d+1)=2*p+1 by omega),decide_eq_false (show ¬ _ by omega)]⟩
  ·exact⟨by rw[decide_eq_false (show ¬ aY0 x.hash (d+1)=2*p by omega),decide_eq_true e];rfl,by rw[decide_eq_true (show aY0 x.hash (d+1)=2*p+1 by omega),decide_eq_true e]⟩
 simp only[dW0,rows,halves,mz9];rw[nk9 (fun x hx=>(key x hx).1.symm),nk9 (fun x hx=>(key x hx).2.symm)]
theorem tc0 (h:dn0 d p es)(k:Nat)(o:Int):dn0 d p (aG0 es k o):=by
 unfold aG0;split
 ·exact h
 ·exact cQ0 h _
variable {x:Bt}
theorem tA0 (hs:aa0 es){j:Nat}{y:Bt}(hx:es[i]?=some x)(hy:es[j]?=some y)(e:x.hash=y.hash):i=j:=by
 obtain⟨hi,rfl⟩:=gI.1 hx;obtain⟨hj,rfl⟩:=gI.1 hy;rcases Nat.lt_trichotomy i j with h|h|h
 ·have:=lO9.1 hs i j hi hj h;omega
 ·exact h
 ·have:=lO9.1 hs j i hj hi h;omega
theorem jl0 (hs:aa0 es)(hx:es[k]?=some x):es.filter (dv0 x.hash)=es.eraseIdx k:=by
 have e:=oc0 hx;have hk:=(gI.1 hx).1;have h1:(es.take k).filter (dv0 x.hash)=es.take k:=mI9.2 fun y hy=>by
  obtain⟨i,hi⟩:=lC9.1 hy;rw[gT] at hi;split at hi
  ·simp only[dv0,nl9,decide_eq_false_iff_not];exact fun e=>by have:=tA0 hs hi hx e;omega
  ·cases hi
 have h2:(es.drop (k+1)).filter (dv0 x.hash)=es.drop (k+1):=mI9.2 fun y hy=>by
  have:=wZ0 hs hx y hy;simp only[dv0,nl9,decide_eq_false_iff_not];omega
 rw[List.eraseIdx_eq_take_drop_succ];conv=>lhs;rw[e,lP9,List.filter_cons,h1,h2]
 simp[dv0]
theorem qJ0 (x y:Bt):cO0 x y=eV0 x y:=by
 unfold cO0 eV0 orZ na0;by_cases h1:x.rg<y.rg <;> by_cases h2:y.rg<x.rg <;> by_cases h3:x.at_<y.at_ <;> by_cases h4:y.at_<x.at_ <;> simp[h1,h2,h3,h4] <;> omega
theorem qe0 (es:List Bt):∀ k:Nat,0<k->k<=es.length->dl0 es k=some (dm0 es k).toNat/\((dm0 es k).toNat:Int)=dm0 es k
 | 0,h,_=>by omega
 | k+1,_,hk=>by
  obtain⟨x,hx⟩:∃ x,es[k]?=some x:=⟨_,gE oM⟩
  rcases Nat.eq_zero_or_pos k with rfl|h0
  ·refine⟨?_,rfl⟩;simp only[dl0,hx];rfl
  ·obtain⟨h1,h2⟩:=qe0 es k h0 oM;obtain⟨j,rfl⟩:∃ j,k=j+1:=⟨k-1,oM⟩
   have hle:=jM0 es j;obtain⟨y,hy⟩:∃ y,es[tr0 es j]?=some y:=⟨_,gE oM⟩
   have hb:dm0 es (j+1)=(tr0 es j:Int):=rfl;have hbs:=iF0 (es:=es) (k:=j+1) oM hx (by simpa using hy);rw[hb] at h1 h2 hbs;simp only[lG9] at h1;have hee:cO0 x y=eV0 x y:=qJ0 x y;rw[dl0,h1,hx];simp only[hy];rw[hbs,hee];split
   ·exact⟨rfl,rfl⟩
   ·exact⟨rfl,rfl⟩
theorem mc0 (hs:aa0 es)(h:es≠[]):es.filter (dv0 (gE0 es))=es.eraseIdx (dm0 es es.length).toNat:=by
 have hl:=List.length_pos_iff.2 h;obtain⟨h1,-⟩:=qe0 es es.length hl (nR _);have hlt:=(gw0 es _ _ h1).2;have hx:=gE hlt;unfold gE0;rw[h1];simp only[hx];exact jl0 hs hx
theorem eF0 {y:Bt}(hy:gA0 y)(o:Int):∀ (n:Nat) (t:Tr) (g:Nat) (sp:Int),t.high=g->g<=3->okT t 0 0 ->
  km0 n g (rows t 0 0) sp y o=⟨(gj0 n t g sp y o).g,rows (gj0 n t g sp y o).t 0 0,(gj0 n t g sp y o).sp,(gj0 n t g sp y o).lost⟩
 | 0,t,g,sp,_,_,_=>rfl
 | n+1,t,g,sp,hg,h3,hok=>by
  have h1:=pT0 t g (aY0 y.hash g) 0 0 hok;have hdep:=Tr.cC0 t g (aY0 y.hash g) 0 0;have hhn:=fun es=>eQ0 (fun _ _=>dW0 (t.at_ g (aY0 y.hash g) 0 0).1 es (0,0) []) (fun _ _=>rfl) t g (aY0 y.hash g) 0 0
  obtain⟨⟨d,p,r,es⟩,hz⟩:∃ z,t.at_ g (aY0 y.hash g) 0 0=z:=⟨_,rfl⟩
  obtain⟨i,hi,hb,hp,hf⟩:=id0 hy.1 oM oM hz;rw[hz] at h1 hdep hhn;simp only[hg,Nat.sub_zero,lp9] at h1 hdep hhn;rw[ny0 hi hb];simp only[gj0,hz];have hfr:=tc0 h1 y.hash o;generalize aG0 es y.hash o=es' at hfr;by_cases hr:bJ0 es' y.hash 3=true
  ·rw[if_pos hr,if_pos hr,hf];rfl
  ·rw[if_neg hr,if_neg hr];by_cases hD:d<3
   ·rw[if_pos hD,if_pos hD];have hok2:=lZ0 (fun _ _=>dW0 d es' (0,0) []) t g (aY0 y.hash g) 0 0 hok (by rw[hz];exact eY0 hfr oM);have hrw:rows (t.put g (aY0 y.hash g) (fun _ _=>dW0 d es' (0,0) [])) 0 0=rep (rows t 0 0) i (halves (d,p,es) es'):=by
     rw[hf];exact congrArg _ (mW0 hfr oM _ _)
    have hhn':=hhn es';by_cases hdg:d=g
    ·rw[if_pos hdg,if_pos hdg];have hpd:t.put (g+1) (2*aY0 y.hash g) (dW0 d es')=t.put g (aY0 y.hash g) (fun _ _=>dW0 d es' (0,0) []):=nx0 _ t g _ oM;rw[hpd,<- hrw];exact eF0 hy o n _ _ _ (by rw[hhn'];omega) oM hok2
    ·rw[if_neg hdg,if_neg hdg];have hpd:t.put g (aY0 y.hash g) (dW0 d es')=t.put g (aY0 y.hash g) (fun _ _=>dW0 d es' (0,0) []):=rfl;rw[hpd,<- hrw];exact eF0 hy o n _ _ _ (by rw[hhn'];omega) h3 hok2
   ·rw[if_neg hD,if_neg hD,hf];have hne:es'≠[]:=fun e=>by subst e;exact hr rfl
    rw[mc0 hfr.2.1 hne];rfl
theorem rA0 (y:Bt)(o:Int)(hy:y.hash<18446744073709551616):∀ (n g:Nat) (l:Lb) (sp:Int) (i:Nat) (b:Nat × Nat × List Bt),l.findIdx? (dL0 y.hash)=some i->l[i]?=some b->b.1<=3->sp<=(km0 n g l sp y o).sp/\(km0 n g l sp y o).sp+b.1<=sp+3
 | 0,g,l,sp,i,b,_,_,h3=>⟨nn9 _,by show sp+(b.1:Int)<=sp+3;omega⟩
 | n+1,g,l,sp,i,b,hi,hb,h3=>by
  rw[ny0 hi hb];split
  ·exact⟨nn9 _,by show sp+(b.1:Int)<=sp+3;omega⟩
  ·split
   ·rename_i h;have hh:dL0 y.hash b=true:=by
     rw[lg9] at hi;obtain⟨h1,h2,-⟩:=hi;rw[gE h1] at hb;cases hb;exact h2
    obtain⟨j,c,hj,hc,hcd⟩:=ju0 (aG0 b.2.2 y.hash o) hh h hy;obtain⟨h4,h5⟩:=rA0 y o hy n (if b.1=g then g+1 else g) _ (sp+1) _ c (sm0 hi hj) (vE0 (np9 (getD_some hb)) hc) oM;rw[hcd] at h5;exact⟨oM,oM⟩
   ·exact⟨nn9 _,by show sp+(b.1:Int)<=sp+3;omega⟩
theorem uK0 {l:Lb}(h:l[i]?=some b):rep l i [b]=l:=by
 obtain⟨hi,rfl⟩:=gI.1 h;unfold rep;rw[lm9,mz9,<- mc9 hi,my9]
theorem iA0 (hh:h<18446744073709551616)(hg:t.high=g)(h3:g<=3)(hok:okT t 0 0) :
  ∃ i b,(rows t 0 0).findIdx? (dL0 h)=some i/\(rows t 0 0)[i]?=some b/\rep (rows t 0 0) i [(b.1,b.2.1,b.2.2.filter (dv0 h))]=rows (eW0 t g h).1 0 0/\(fnd b.2.2 h).isSome=(eW0 t g h).2/\fnd b.2.2 h=Mx t h:=by
 have h1:=pT0 t g (aY0 h g) 0 0 hok;obtain⟨e1,e2,-⟩:=at_root hh t g oM oM;obtain⟨⟨d,p,r,es⟩,hz⟩:∃ z,t.at_ g (aY0 h g) 0 0=z:=⟨_,rfl⟩
 obtain⟨i,hi,hb,hp,hf⟩:=id0 hh oM oM hz;rw[hz] at h1 e2;simp only at h1 e2;refine⟨i,_,hi,hb,?_,?_,by unfold Mx;rw[<- e2]⟩
 ·unfold eW0;simp only[hz];by_cases hbb:hasB es h=true
  ·rw[if_pos hbb,hf];obtain⟨y,hy,rfl,-⟩:=qA0 h1.2.1 hbb;show rep _ i [(d,p,es.filter (dv0 y.hash))]=rep _ i [(d,p,drB es y.hash)];unfold drB;rw[if_pos hbb,jl0 h1.2.1 hy]
  ·rw[if_neg hbb];have:es.filter (dv0 h)=es:=mI9.2 fun x hx=>by
    simp only[dv0,nl9,decide_eq_false_iff_not];exact fun e=>hbb (by unfold hasB;rw[md9];exact⟨x,hx,by simp[e]⟩)
   show rep _ i [(d,p,es.filter (dv0 h))]=_;rw[this,uK0 hb]
 ·show (fnd es h).isSome=_;rw[<- gr0];unfold eW0;simp only[hz];cases hbb:hasB es h <;> rfl
def slB (g k:Nat)(b:Nat × Nat × List Bt):Bool:=decide (k/2^(g-b.1)=b.2.1)
theorem vw0 (hk:k<2^g)(hg:t.high<=g)(h20:g<=20)(hz:t.at_ g k 0 0=(d,p,r,es)) :
  ∃ i,(rows t 0 0).findIdx? (slB g k)=some i/\(rows t 0 0)[i]?=some (d,p,es):=by
 have hh:k*2^(64-g)<18446744073709551616:=by
  refine nLL (Nat.mul_lt_mul_of_pos_right hk (lW9 dC)) ?_;rw[<- mZ9,show g+(64-g)=64 by omega];decide
 have hpk:aY0 (k*2^(64-g)) g=k:=by
  by_cases g0:g=0
  ·subst g0;rw[eG0];simp at hk;exact hk.symm
  ·unfold aY0;rw[if_neg oM,Nat.mul_div_cancel _ (lW9 dC)]
 obtain⟨i,hi,hb,-⟩:=id0 (d:=d) (p:=p) (r:=r) (es:=es) hh hg h20 (by rw[hpk];exact hz);refine⟨i,?_,hb⟩;have he:∀ b ∈ rows t 0 0,slB g k b=dL0 (k*2^(64-g)) b:=fun b hb=>by
  have h1:=gf0 t 0 0 b hb;unfold slB dL0;rw[<- ij0 (g:=g) h20 oM hh,hpk]
 rw[lg9] at hi ⊢;obtain⟨h1,h2,h3⟩:=hi;exact⟨h1,by rw[he _ (List.getElem_mem h1)];exact h2,fun j hj=>by rw[he _ (List.getElem_mem oM)];exact h3 j hj⟩
end
section
open Go.RowKit Go.Sg Go.Sg.Bits Go.Sg.Clk CP SF
def KqP (w0:World)(base bs bv bx:Nat)(P:aQ0)(a:Bool)(N G:Nat)(t:Tr)(sp:Int)(V:World):Prop:=
 ∃ (B:Blk) (bd:Nat) (y:Cs) (x:aL0) (t':Tr),fk0 V B bx bd y P a N x t' sp/\bare t'=t/\(B.base=base/\B.s=bs/\B.d=bv)/\Fq w0 V/\(base=w0.heap.size/\base<=bx/\base<=bd)/\(y.gen=G/\y.first=12)
def DnP (w0:World)(base bv:Nat)(P:aQ0)(N:Nat)(V:World):Prop:=
 ∃ (B:Blk) (y:Cs),aP0 V B y P N/\(B.base=base/\B.d=bv)/\Fq w0 V/\(y.sectors=120/\y.size=96)
def zL0 (w0:World)(base bs bv bx:Nat)(P:aQ0)(a:Bool)(N N' G:Nat)(t:Tr)(sp:Int)(V:World)(err:Int)(w':World):Prop:=
 FrI base V w'/\((err=0/\KqP w0 base bs bv bx P a N G t sp w')\/(err=4/\a=true/\DnP w0 base bv P N' w'))
section
variable {w0 V V':World}{base bs bv bx N G:Nat}{P:aQ0}{a:Bool}{t:Tr}{sp:Int}
theorem KqP.fr (h:KqP w0 base bs bv bx P a N G t sp V):Fq w0 V:=by
 obtain⟨_,_,_,_,_,_,_,_,h,_⟩:=h;exact h
theorem KqP.Ah0 (h:KqP w0 base bs bv bx P a N G t sp V):base=w0.heap.size:=by
 obtain⟨_,_,_,_,_,_,_,_,_,h,_⟩:=h;exact h.1
theorem KqP.fr0 (h:KqP w0 base bs bv bx P a N G t sp V)(F:Fq V V'):KqP w0 base bs bv bx P a N G t sp V':=by
 obtain⟨B,bd,y,x,t',hT,h2,h3,h4,h5⟩:=h;exact⟨B,bd,y,x,t',hT.fr0 F,h2,h3,h4.trans F nI,h5⟩
theorem KqP.mono (h:KqP w0 base bs bv bx P a N G t sp V){N':Nat}(hN:N<=N')(h9:N'<=90000):KqP w0 base bs bv bx P a N' G t sp V:=by
 obtain⟨B,bd,y,x,t',hT,h2⟩:=h;exact⟨B,bd,y,x,t',hT.mono hN h9,h2⟩
theorem KqP.high (h:KqP w0 base bs bv bx P a N G t sp V):t.high<=3/\okT t 0 0:=by
 obtain⟨B,bd,y,x,t',hT,rfl,-⟩:=h;exact⟨by rw[bq0,hT.high];exact hT.depth,mG0 _ _ _ hT.ok⟩
theorem DnP.fr0 (h:DnP w0 base bv P N V)(F:Fq V V'):DnP w0 base bv P N V':=by
 obtain⟨B,y,hD,h1,h2,h3⟩:=h;exact⟨B,y,hD.fr0 F,h1,h2.trans F nI,h3⟩
theorem aD0.dn {Q:aC0}{B:Blk}{bd:Nat}{y:Cs}{x:aL0}{au0 slots:List Rf}{L:List Bp}{s:Int}(h:aD0 V B bx bd y Q a N x au0 slots L s)(hf:y.first=12):y.sectors=120/\y.size=96:=by
 have h1:=h.st.sizes;have h2:=h.pages;have h3:=h.room;omega
theorem sz0 {E:Bt}(hE:gA0 E)(o:Int)(hh:t.high<=3)(hok:okT t 0 0):sp<=(gj0 8 t t.high sp E o).sp/\(gj0 8 t t.high sp E o).sp<=sp+3:=by
 have h1:=eF0 hE o 8 t t.high sp rfl hh hok;obtain⟨z,hz⟩:=eX (t.at_ t.high (aY0 E.hash t.high) 0 0)
 obtain⟨d,p,r,es⟩:=z;have hd:=Tr.cC0 t t.high (aY0 E.hash t.high) 0 0;obtain⟨i,hi,hb,-⟩:=id0 hE.1 (nR _) oM hz;rw[hz] at hd;have:=rA0 E o hE.1 8 t.high (rows t 0 0) sp i _ hi hb (by simp only at hd ⊢;omega);rw[h1] at this;simp only at this;exact⟨this.1,oM⟩
theorem yF0 (h:KqP w0 base bs bv bx P a N G t sp V)(E:Bt)(o:Int)(hE:gA0 E)(hN:N+1300<=90000)(hsp:0<=sp/\sp+8<=100000){R:ea0}(hR:gj0 8 t t.high sp E o=R) :
  Calls Tryz.prog 64 #[cG0 bx,btV E,.int .i64 o] V (fun e w'=>∃ (lost:Bool) (err:Int),e = .returned (.tuple #[.bool lost,.int .i64 err])/\(err=0->lost=R.lost/\R.t.high=R.g)/\zL0 w0 base bs bv bx P a (N+480) (N+1300) G R.t R.sp V err w'):=by
 obtain⟨hh,hok⟩:=h.high;have hs:=sz0 hE o hh hok (sp:=sp);rw[hR] at hs;obtain⟨B,bd,y,x,t',hT,rfl,hB,hF,hbs,hG⟩:=h;obtain⟨au0,L,hM,-⟩:=hT.ex;have hsr:=if0 8 (bare t') x.depth (sp:=sp) (E:=E) (o:=o) (c:=(bare t').refs.length-sp) oM;rw[bq0,hT.high] at hR;have hp:=tw0 hT E o hE hsp hN;rw[hR] at hp hsr;refine hp.mono ?_;rintro e w' ⟨lost,err,rfl,F,hr⟩;have FI:FrI base V w':=by rw[<- hB.1];exact nM0 F hM.dir hM.idx hM.base
 refine⟨lost,err,rfl,fun h0=>?_,FI,?_⟩
 ·rcases hr with⟨-,h1,y',x',t2,N',hT',-,hb',hx',-⟩|⟨h1,-⟩
  ·exact⟨h1,by rw[<- hb',bq0,hT'.high,hx']⟩
  ·omega
 ·rcases hr with⟨h0,-,y',x',t2,N',hT',hN',hb',-,hlk,hg',-⟩|⟨h0,ha,hD⟩
  ·refine .inl ⟨h0,B,bd,y',x',t2,hT'.mono ?_ oM,hb',hB,FI.fr0 (ll9 hbs.1.symm) hF,hbs,hg'.trans hG.1,hlk.first.trans hG.2⟩;rw[<- hb',eD0,eD0] at hsr;omega
  ·exact .inr ⟨h0,ha,B,y,hD,⟨hB.1,hB.2.2⟩,FI.fr0 (ll9 hbs.1.symm) hF,hM.dn hG.2⟩
variable {hash:Nat}
theorem wD0 (h:KqP w0 base bs bv bx P a N G t sp V)(hh:hash<18446744073709551616)(hN:N+23<=90000) :
  Calls Tryz.prog 70 #[cG0 bx,.int .u64 hash] V (fun e w'=>∃ (was:Bool) (err:Int),e = .returned (.tuple #[.bool was,.int .i64 err])/\(err=0->was=(eW0 t t.high hash).2)/\zL0 w0 base bs bv bx P a (N+23) (N+23) G (eW0 t t.high hash).1 sp V err w'):=by
 obtain⟨B,bd,y,x,t',hT,rfl,hB,hF,hbs,hG⟩:=h;obtain⟨au0,L,hM,-⟩:=hT.ex;rw[bq0,hT.high];refine (vm0 hT hh hN).mono ?_;rintro e w' ⟨was,err,rfl,F,hr⟩;have FI:FrI base V w':=by rw[<- hB.1];exact nM0 F hM.dir hM.idx hM.base
 refine⟨was,err,rfl,fun h0=>?_,FI,?_⟩
 ·rcases hr with⟨-,h1,-⟩|⟨h1,-⟩
  ·exact h1
  ·omega
 ·rcases hr with⟨h0,-,y',x',t2,hT',⟨hb',-⟩,-,hlk,hg',-⟩|⟨h0,ha,hD⟩
  ·exact .inl ⟨h0,B,bd,y',x',t2,hT',hb',hB,FI.fr0 (ll9 hbs.1.symm) hF,hbs,hg'.trans hG.1,hlk.first.trans hG.2⟩
  ·exact .inr ⟨h0,ha,B,y,hD,⟨hB.1,hB.2.2⟩,FI.fr0 (ll9 hbs.1.symm) hF,hM.dn hG.2⟩
theorem wC0 (h:KqP w0 base bs bv bx P a N G t sp V)(hh:hash<18446744073709551616)(hN:N+3<=90000) :
  Calls Tryz.prog 66 #[cG0 bx,.int .u64 hash] V (fun e w'=>∃ (c0 c1 c2:Int) (ok:Bool) (err:Int),e = .returned (.tuple #[.agg #[.int .i64 c0,.int .i64 c1,.int .i64 c2],.bool ok,.int .i64 err])/\(err=0->ok=(Mx t hash).isSome/\.agg #[.int .i64 c0,.int .i64 c1,.int .i64 c2]=to0 (Mx t hash))/\zL0 w0 base bs bv bx P a (N+3) (N+3) G t sp V err w'):=by
 have hk2:=h.high;obtain⟨B,bd,y,x,t',hT,rfl,hB,hF,hbs,hG⟩:=h;obtain⟨au0,L,hM,-⟩:=hT.ex;refine (hT.find hh hN).mono ?_;rintro e w' ⟨c0,c1,c2,ok,err,rfl,F,hr⟩;have FI:FrI base V w':=by rw[<- hB.1];exact dd0 F
 refine⟨c0,c1,c2,ok,err,rfl,fun h0=>?_,FI,?_⟩
 ·rcases hr with⟨-,h1,h2,-⟩|⟨h1,-⟩
  ·obtain⟨p,hbk⟩:=look_ok hh (show (bare t').high<=x.depth by rw[bq0,hT.high];exact nR _) (by have:=hT.depth;omega) hk2.2;have he:tq0 t' x.depth hash=(look (bare t') 0 hash).2:=by
    rw[qI0 hh (ll9 hT.high) (by have:=hT.depth;omega),look_bare]
   rw[he] at h1 h2;rw[wo0 hbk.2.1] at h2;rw[gr0] at h1;exact⟨h1,h2⟩
  ·omega
 ·rcases hr with⟨h0,-,-,hI⟩|⟨h0,ha,hD⟩
  ·exact .inl ⟨h0,B,bd,y,x,t',hI,rfl,hB,FI.fr0 (ll9 hbs.1.symm) hF,hbs,hG⟩
  ·exact .inr ⟨h0,ha,B,y,hD,⟨hB.1,hB.2.2⟩,FI.fr0 (ll9 hbs.1.symm) hF,hM.dn hG.2⟩
theorem ut0 (h:KqP w0 base bs bv bx P false N G t sp V)(hN:N+12<=90000) :
  Calls Tryz.prog 71 #[cG0 bx] V (fun e w'=>∃ (v:Value) (zs:List Slt) (t':Tr),e = .returned (.tuple #[v,.int .i64 0])/\w'.ownsRow V.heap.size 131 5 v zs.length (zs.flatMap bE0)/\zs.map (·.s)=bP0 t' t.high 0 0/\bare t'=t/\(∀ z ∈ zs,BkT z w')/\KqP w0 base bs bv bx P false (N+12) G t sp w'/\FrI base V w'):=by
 obtain⟨B,bd,y,x,t',hT,rfl,hB,hF,hbs,hG⟩:=h;rw[bq0,hT.high];refine (lJ0 hT hN).mono ?_;rintro e w' ⟨v,zs,rfl,F,ho,hm,hz,hI⟩;have FI:FrI base V w':=by rw[<- hB.1];exact dd0 F
 exact⟨v,zs,t',rfl,ho,hm,rfl,hz,⟨B,bd,y,x,t',hI,rfl,hB,FI.fr0 (ll9 hbs.1.symm) hF,hbs,hG⟩,FI⟩
theorem nG0 (h:KqP w0 base bs bv bx P a N G t sp V):Calls Tryz.prog 67 #[cG0 bx] V (tl0 t.high V):=by
 obtain⟨B,bd,y,x,t',hT,rfl,-⟩:=h;obtain⟨au0,L,hM,-⟩:=hT.ex;rw[bq0,hT.high];exact lK0 hM.idx hM.dir
theorem hU0 (h:KqP w0 base bs bv bx P a N G t sp V):Calls Tryz.prog 68 #[cG0 bx] V (tl0 sp V):=by
 obtain⟨B,bd,y,x,t',hT,rfl,-⟩:=h;obtain⟨au0,L,hM,-⟩:=hT.ex;exact ja0 hM.idx
theorem yG0 (h:KqP w0 base bs bv bx P a N G t sp V):Calls Tryz.prog 31 #[.pointer (some ⟨bs,0,none⟩)] V (fun e w'=>e = .returned (.int .i64 G)/\V=w'):=by
 obtain⟨B,bd,y,x,t',hT,rfl,⟨-,rfl,-⟩,-,-,⟨rfl,-⟩⟩:=h;obtain⟨au0,L,hM,-⟩:=hT.ex;exact Aa0 hM.st
theorem mQ0 (h:KqP w0 base bs bv bx P a N G t sp V):Calls Tryz.prog 23 #[.pointer (some ⟨bs,0,none⟩)] V (fun e w'=>∃ c:Nat,e = .returned (.int .i64 c)/\c<=8/\V=w'):=by
 obtain⟨B,bd,y,x,t',hT,rfl,⟨-,rfl,-⟩,-⟩:=h;obtain⟨au0,L,hM,-⟩:=hT.ex;have hp:=hM.places;exact (yI0 hM.st).mono fun e w' ⟨c,h1,h2,h3⟩=>⟨c,h1,oM,h3⟩
end
def KpL (l:Nat)(w0:World)(base bs bv bx:Nat)(P:aQ0)(a:Bool)(N G:Nat)(t:Tr)(sp:Int)(rp rs:Int)(V:World):Prop:=
 ∃ (B:Blk) (bd:Nat) (y:Cs) (x:aL0) (t':Tr),fk0 V B bx bd y P a N x t' sp/\bare t'=t/\(B.base=base/\B.s=bs/\B.d=bv)/\Fq w0 V/\(base=w0.heap.size/\base<=bx/\base<=bd)/\(y.gen=G/\y.first=12)/\cZ0 l V B y P a N/\(x.rp=rp/\x.rs=rs)
section
variable {w0 V V':World}{base bs bv bx N G l:Nat}{P:aQ0}{a:Bool}{t:Tr}{sp rp rs:Int}
theorem KpL.kp (h:KpL l w0 base bs bv bx P a N G t sp rp rs V):KqP w0 base bs bv bx P a N G t sp V:=by
 obtain⟨B,bd,y,x,t',h1,h2,h3,h4,h5,h6,-⟩:=h;exact⟨B,bd,y,x,t',h1,h2,h3,h4,h5,h6⟩
theorem KpL.fr0 (h:KpL l w0 base bs bv bx P a N G t sp rp rs V)(F:Fq V V'):KpL l w0 base bs bv bx P a N G t sp rp rs V':=by
 obtain⟨B,bd,y,x,t',hT,h2,h3,h4,h5,h6,h7,h8⟩:=h;exact⟨B,bd,y,x,t',hT.fr0 F,h2,h3,h4.trans F nI,h5,h6,h7.fr0 F,h8⟩
theorem uv0 (h:KqP w0 base bs bv bx P a N G t sp V)(hN:N+8<=90000) :
  Calls Tryz.prog 39 #[.pointer (some ⟨bs,0,none⟩)] V (fun e w'=>∃ err,e = .returned (.int .i64 err)/\FrI base V w'/\((err=0/\∃ rp rs,KpL 1 w0 base bs bv bx P a (N+8) G t sp rp rs w')\/(err=4/\a=true/\DnP w0 base bv P (N+8) w'))):=by
 obtain⟨B,bd,y,x,t',hT,rfl,⟨hB,rfl,rfl⟩,hF,hbs,hG⟩:=h;obtain⟨au0,L,hM,hP⟩:=hT.ex;have hp:=hM.places;refine (wR0 hM.st (by rw[hp];exact hN)).mono ?_;rintro e w' ⟨err,rfl,F,hr⟩;have FI:FrI base V w':=by rw[<- hB];exact dd0 F
 refine⟨err,rfl,FI,?_⟩;rcases hr with⟨h0,hL⟩|⟨h0,ha,hD⟩
 ·rw[hp] at hL;exact .inl ⟨h0,x.rp,x.rs,B,bd,y,x,t',⟨⟨au0,L,hM.frB F hL.c,hP⟩,hT.high,hT.ok⟩,rfl,⟨hB,rfl,rfl⟩,FI.fr0 (ll9 hbs.1.symm) hF,hbs,hG,hL,rfl,rfl⟩
 ·rw[hp] at hD;exact .inr ⟨h0,ha,B,y,hD,⟨hB,rfl⟩,FI.fr0 (ll9 hbs.1.symm) hF,hM.dn hG.2⟩
theorem wB0 (h:KpL 1 w0 base bs bv bx P a N G t sp rp rs V)(hN:N+1<=90000) :
  Calls Tryz.prog 41 #[.pointer (some ⟨bv,0,none⟩)] V (fun e w'=>∃ err,e = .returned (.int .i64 err)/\FrI base V w'/\((err=0/\KpL 2 w0 base bs bv bx P a (N+1) G t sp rp rs w')\/(err=4/\a=true/\DnP w0 base bv P (N+1) w'))):=by
 obtain⟨B,bd,y,x,t',hT,rfl,⟨hB,rfl,rfl⟩,hF,hbs,hG,hl,hx⟩:=h;obtain⟨au0,L,hM,hP⟩:=hT.ex;refine (zf0 hl hN).mono ?_;rintro e w' ⟨F,hr⟩;have FI:FrI base V w':=by rw[<- hB];exact dd0 F
 rcases hr with⟨rfl,hL⟩|⟨rfl,ha,hD⟩
 ·exact⟨0,rfl,FI,.inl ⟨rfl,B,bd,y,x,t',⟨⟨au0,L,hM.frB F hL.c,hP⟩,hT.high,hT.ok⟩,rfl,⟨hB,rfl,rfl⟩,FI.fr0 (ll9 hbs.1.symm) hF,hbs,hG,hL,hx⟩⟩
 ·exact⟨4,rfl,FI,.inr ⟨rfl,ha,B,y,hD,⟨hB,rfl⟩,FI.fr0 (ll9 hbs.1.symm) hF,hM.dn hG.2⟩⟩
theorem wE0 (h:KpL l w0 base bs bv bx P a N G t sp rp rs V):Calls Tryz.prog 76 #[cG0 bx] V (wr0 rp rs V):=by
 obtain⟨B,bd,y,x,t',hT,rfl,-,-,-,-,-,⟨rfl,rfl⟩⟩:=h;obtain⟨au0,L,hM,-⟩:=hT.ex;exact vh0 hM.idx hM.dir
def yz0 (P:aQ0)(rp rs:Int)(t:Tr):Prop:=∃ (x:aL0) (t':Tr),Cmt P x t'/\bare t'=t/\(x.rp=rp/\x.rs=rs)
theorem rh0 (h:KpL 2 w0 base bs bv bx P a N G t sp rp rs V)(hg:G<2199023255552) :
  Calls Tryz.prog 37 #[.pointer (some ⟨bs,0,none⟩)] V (fun e w'=>e = .returned (.tuple #[])/\FrI base V w'/\∃ P':aQ0,KqP w0 base bs bv bx P' a N (G+1) t sp w'/\yz0 P' rp rs t):=by
 obtain⟨B,bd,y,x,t',hT,rfl,⟨hB,rfl,rfl⟩,hF,hbs,⟨rfl,hf⟩,hl,⟨rfl,rfl⟩⟩:=h;obtain⟨au0,L,hM,hP⟩:=hT.ex;have h8:=uM0 (show t'.high<=3 by rw[hT.high];exact hT.depth);refine (hM.wh0 hl (by rw[hP.length_eq,hQ0];exact h8) hg hf).mono ?_;rintro e w' ⟨rfl,F,n,P',hM',hk⟩;have FI:FrI base V w':=by rw[<- hB];exact dd0 F
 exact⟨rfl,FI,P',⟨Blk.next B n,bd,y.commit,x,t',⟨⟨au0,L,hM',hP⟩,hT.high,hT.ok⟩,rfl,⟨hB,rfl,rfl⟩,FI.fr0 (ll9 hbs.1.symm) hF,hbs,⟨rfl,hf⟩⟩,x,t',⟨⟨y,au0,L,hM.c,hM.bk,hP,hM.live.1,hM.room,hk⟩,hT.high,hT.ok,hM.per⟩,rfl,rfl,rfl⟩
end
end
section
open Go.RowKit Go.Sg CP SF
def RbQ (d p:Int)(es:List Bt)(w:World)(e:Ending)(w':World):Prop:=∃ a c,e = .returned (rbV d p (.slice a es.length c))/\cF0 w' 0 (.slice a es.length c) es/\Fq w w'
theorem wa0 {k q:Nat}(hk:k<1048576):wrap64 ((k:Int)/(q:Int))=((k/q:Nat):Int):=by
 have h2:=nb9 k q;rw[<- Int.natCast_ediv];generalize k/q=qq at *;simp only[wrap64];omega
variable {V w:World}{es:List Bt}{v:Value}
theorem zm0 {W':World}{z:Nat}{d p:Int}{a:Option Addr}{c:Nat}{v0 v1 v2:Value}{c0:Array Value}(hz:w.heap.size=z)(hF:Fq w V)(h0:V.heap[z+1]?=some (.cells c0 220))(hE:cF0 w 0 (.slice a es.length c) es)
  (hW:((V.setCell ⟨z+1,0,none⟩ v0).setCell ⟨z+1,1,none⟩ v1).setCell ⟨z+1,2,none⟩ v2=W'):RbQ d p es w (.returned (rbV d p (.slice a es.length c))) W':=by
 have F:Fr (fun b=>b=z+1) V W':=by rw[<- hW];with_reducible (repeat (first|exact Fr.refl _ _|refine Fr.setCell ?_ (fun _=>by simp) _))
 have FW:Fq w W':=hF.trans F (fun b hb e=>oM);exact⟨a,c,rfl,oN hE FW,FW⟩
theorem uG0 {l:Lb}(hB:OwnB w 0 v l)(hl:l.length<=60000)(g:Nat)(hg20:g<=20)(most slots sp:Int)(k0:Nat)(hk0:k0<1048576)(hd:∀ b ∈ l,b.1<=g){i:Nat}{b:Nat × Nat × List Bt}(hi:l.findIdx? (slB g k0)=some i)(hb:l[i]?=some b) :
  Calls Tryz.prog 152 #[ixV g most slots v sp,.int .i64 k0] w (RbQ b.1 b.2.1 b.2.2 w):=by
 obtain⟨xs,rfl,hR,hE⟩:=hB;obtain⟨va,vc,rfl,-,-,-,-⟩:=oSl hR;obtain⟨n,hn⟩:=eX xs.length
 obtain⟨xb,hxb,rfl⟩:=nK0 hb;obtain⟨w1,hw1⟩:=eX ((w.alloc (.cells #[.int .i64 g,.int .i64 most,.int .i64 slots,.slice va n vc,.int .i64 sp] 137)).alloc (.cells #[.int .i64 0,.int .i64 0,.slice none 0 0] 220))
 obtain⟨z,hz⟩:=eX w.heap.size
 obtain⟨b0,b1,F1⟩:=ai0 hw1;rw[hz] at b0 b1;have hs1:w1.heap.size=z+2:=by rw[<- hw1,<- hz];simp
 have hR1:=oN hR F1;have hIH:i<n/\(∀ x,xs[i]?=some x->k0/2^(g-x.d)=x.p)/\∀ k x,k<i->xs[k]?=some x->k0/2^(g-x.d)≠x.p:=by
  rw[lg9] at hi;obtain⟨h1,h2,h3⟩:=hi;rw[ln9] at h1;refine⟨oM,fun x hx=>?_,fun k x hk hx=>?_⟩
  ·obtain⟨_,e⟩:=gI.1 hx;simpa[slB,e,Rb.key] using h2
  ·obtain⟨_,e⟩:=gI.1 hx;simpa[slB,e,Rb.key] using h3 k hk
 have hdd:∀ (k:Nat) (x:Rb),xs[k]?=some x->x.d<=g:=fun k x hx=>hd x.key (ld9.2 ⟨x,gM hx,rfl⟩)
 rw[ln9,hn] at hl;rw[hn] at hR1 ⊢;have HC0:=hid (fun V (F:Fq w1 V)=>aI (cells5 (F.heap b0 id)) (F.heap b1 id));have HR:=hid hR1;have HN:=hid hn;have HF:=hid F1;have HW:=hid hw1;have HI:=hid hIH;have HD:=hid hdd;have HZ:=hid hz;have HS:=hid hs1;have HX:=hi2 hxb (hE xb (gM hxb));have hin:=hIH.1;obtain⟨⟨x0,x1,x2,x3,x4,xz,xl⟩,-⟩:=HC0.out _ (Fr.refl _ _);clear hR hn F1 hw1 b0 b1 hR1 hIH hdd hd hi hz hs1 hE hxb hb;go_enter Tryz.func152,Tryz.ntmps152;go_upto_region 1 with fail
 rw[HW.out];try simp only[HZ.out]
 clear x0 x1 x2 x3 x4 xz xl;go_wp2_with fail
 go_loopw [5] (fun iv wr=>∃ k:Nat,k<=i/\iv = .int .i64 k/\Fq w1 wr) (fun iv _=>n-(intOf iv).toNat)
 case atStart=>exact⟨0,la9 _,rfl,Fr.refl _ _⟩
 case round =>
  obtain⟨k,hk,rfl,hF⟩:=hrel;have hd:decide ((k:Int)<(n:Int))=true:=by simp;omega
  have hki:(k:Int)<(n:Int):=oM
  have hkw:wrap64 ((k:Int)+1)=((k+1:Nat):Int):=bM0 oM;obtain⟨x,hx⟩:∃ x,xs[k]?=some x:=⟨_,gE (by rw[HN.out];omega)⟩
  have hxd:=HD.out k x hx;obtain⟨gb,rfl,hg,c0,c1,c2⟩:=ir0 (oN HR.out hF) hx;obtain⟨s,hs⟩:=eX wr.heap.size
  have hsz:z+2<=s:=by rw[<- hs,<- HS.out];exact hF.size
  obtain⟨V3,hV3⟩:=eX (wr.alloc (.cells #[.int .i64 x.d,.int .i64 x.p,x.v] 220))
  have b3:V3.heap[s]?=some (.cells #[.int .i64 x.d,.int .i64 x.p,x.v] 220):=by rw[<- hV3,<- hs];exact han _ _
  have F3:Fq wr V3:=by rw[<- hV3];exact (Fr.refl _ _).alloc _
  have HC3:=hid (fun V (F:Fq V3 V)=>aI (HC0.out V ((hF.trans F3 nI).trans F nI)) (cells3 (F.heap b3 id)));obtain⟨⟨x0,x1,x2,x3,x4,xz,xl⟩,-⟩:=HC0.out _ hF;have HXk:=hid hx;have H3:=hid (hF.trans F3 nI);have HV3:=hid hV3;have HSs:=hid hs;clear hx hF hV3 F3 b3 hs;go_upto_region 5 with fail
  rw[HV3.out];try simp only[HSs.out]
  clear x0 x1 x2 x3 x4 xz xl c0 c1 c2 hg;obtain⟨⟨⟨x0,x1,x2,x3,x4,xz,xl⟩,-⟩,y0,y1,y2,yz,yl⟩:=HC3.out _ (Fr.refl _ _);go_wp2_with fail
  go_loopw [7,8] (fun lv mv wr2=>∃ m lw:Nat,x.d<=m/\m<=g/\lw=2^(m-x.d)/\mv = .int .i64 m/\lv = .int .i64 lw/\wr2=V3) (fun _ mv _=>g-(intOf mv).toNat)
  case atStart=>exact⟨x.d,1,nR _,hxd,by rw[nq9],rfl,rfl,rfl⟩
  case round =>
   obtain⟨m,lw,hm1,hm2,hlw,rfl,rfl,rfl⟩:=hrel;obtain⟨V3,rfl⟩:∃ W:World,W=wr:=⟨_,rfl⟩
   have HL:=hid hlw;clear hlw;have hm20:m<=20:=nT hm2 hg20;have hlb:lw<=1048576:=by rw[HL.out];exact nT (lc9 dC (nT (Nat.sub_le _ _) hm20)) dC
   by_cases hlt:m<g
   ·have hqi:(m:Int)<(g:Int):=Int.ofNat_lt.2 hlt;have HL2:=hid (show lw*2=2^(m+1-x.d) by rw[HL.out,<- lK9];congr 1;exact (Nat.succ_sub hm1).symm);clear hkw;go_wp2_with fail
    go_roundw;case rel=>exact⟨m+1,lw*2,ni9 hm1,hlt,HL2.out,by go_num,by go_num,trivial⟩
    case measure=>simp[intOf];omega
   ·obtain rfl:m=g:=Nat.le_antisymm hm2 (Nat.le_of_not_lt hlt);have hdm:decide ((m:Int)<(m:Int))=false:=sP;have hl0:0<lw:=(by rw[HL.out];exact lW9 dC);have hl0i:(lw:Int)≠0:=fun e=>mv9 0 (by rw[<- Int.natCast_eq_zero.1 e] at hl0 ⊢;exact hl0)
    have HQ:=hid (wa0 (q:=lw) hk0);go_wp2_with fail
    go_quiet (fail)
    rw[HQ.out];have H4:=hid (H3.out.trans ((Fr.refl (fun _=>False) V3).drewN nq) nI);have HY3:=hid (HC3.out _ ((Fr.refl (fun _=>False) V3).drewN nq));clear x0 x1 x2 x3 x4 xz xl y0 y1 y2 yz yl;rcases lV9 k i with hlt'|hge
    ·have heb:(((k0/lw:Nat):Int) == ((x.p:Nat):Int))=false:=(by rw[el0,HL.out];exact decide_eq_false (HI.out.2.2 k x hlt' HXk.out));clear hl0 hl0i hlb hm20 hdm;go_wp2_with fail
     go_roundw;case rel=>exact⟨k+1,hlt',by go_num,H4.out⟩
     case measure=>simp[intOf];omega
    ·obtain rfl:k=i:=Nat.le_antisymm hk hge;have heb:(((k0/lw:Nat):Int) == ((x.p:Nat):Int))=true:=(by rw[el0,HL.out];exact decide_eq_true (HI.out.2.1 x HXk.out));obtain rfl:x=xb:=by have:=HX.out.1;rw[HXk.out] at this;exact Option.some.inj this
     have hb4:=(HC0.out _ H4.out).2;obtain⟨t0,t1,t2,tz,tl⟩:=cells3 hb4;obtain⟨-,y0,y1,y2,yz,yl⟩:=HY3.out;have HB4:=hid hb4;clear hl0 hl0i hlb hm20 hdm hb4;go_wp2_with fail
     refine bodyPost_ret (v:=rbV x.d x.p x.v) sR rfl ?_;exact zm0 HZ.out (HF.out.trans H4.out nI) HB4.out HX.out.2 rfl
theorem nc0 (F:Fq w V){g j:Nat}{u0 u1 u2 u3:Value}(hg:g<w.heap.size)(h0:w.cell? ⟨g,j,none⟩=some u0)(h1:w.cell? ⟨g,j+1,none⟩=some u1)(h2:w.cell? ⟨g,j+2,none⟩=some u2)(h3:w.cell? ⟨g,j+3,none⟩=some u3) :
  V.cell? ⟨g,j,none⟩=some u0/\V.cell? ⟨g,j+1,none⟩=some u1/\V.cell? ⟨g,j+2,none⟩=some u2/\V.cell? ⟨g,j+3,none⟩=some u3/\g<V.heap.size:=
 ⟨(F.cell (p:=⟨g,_,none⟩) hg id).trans h0,(F.cell (p:=⟨g,_,none⟩) hg id).trans h1,(F.cell (p:=⟨g,_,none⟩) hg id).trans h2,(F.cell (p:=⟨g,_,none⟩) hg id).trans h3,nLL hg F.size⟩
theorem zx0 (x:Bt)(w:World):(binOp .neq 118 (btV x) (btV x)).run Tryz.prog w = .ok (.bool false) w:=by
 have h:Tryz.prog.underlying 118=_:=Tryz.underlying118;go_simp
theorem xP0 {v':Value}(hE:bm0 w 0 v es)(hF:cF0 w 0 v' es)(hl:es.length<=60000)(d p:Int) :
  Calls Tryz.prog 151 #[bkV d p v,rbV d p v'] w (ec0 (.bool true) w):=by
 obtain⟨va,vc,rfl,-,-,-,-⟩:=oSl hE;obtain⟨ua,uc,rfl,-,-,-,-⟩:=oSl hF;obtain⟨n,hn⟩:=eX es.length
 obtain⟨w1,hw1⟩:=eX ((w.alloc (.cells #[.int .i64 d,.int .i64 p,.slice va n vc] 129)).alloc (.cells #[.int .i64 d,.int .i64 p,.slice ua n uc] 220))
 obtain⟨z,hz⟩:=eX w.heap.size
 obtain⟨b0,b1,F1⟩:=ai0 hw1;rw[hz] at b0 b1;have HC0:=hid (fun V (F:Fq w1 V)=>aI (cells3 (F.heap b0 id)) (cells3 (F.heap b1 id)));have HE:=hi2 hE hF;rw[hn] at HE hl ⊢;have HN:=hid hn;have HF:=hid F1;have HW:=hid hw1;have HZ:=hid hz;obtain⟨⟨x0,x1,x2,xz,xl⟩,y0,y1,y2,yz,yl⟩:=HC0.out _ (Fr.refl _ _);have hnd:((d:Int) == d)=true:=by simp
 clear hE hF hn F1 hw1 b0 b1 hz;go_enter Tryz.func151,Tryz.ntmps151;go_upto_region 1 with fail
 rw[HW.out];try simp only[HZ.out]
 go_wp2_with fail
 go_loopw [5] (fun iv wr=>∃ k:Nat,k<=n/\iv = .int .i64 k/\Fq w1 wr) (fun iv _=>n-(intOf iv).toNat)
 case atStart=>exact⟨0,la9 _,rfl,Fr.refl _ _⟩
 case round =>
  obtain⟨k,hk,rfl,hF⟩:=hrel;clear x0 x1 x2 xz xl y0 y1 y2 yz yl;obtain⟨⟨x0,x1,x2,xz,xl⟩,y0,y1,y2,yz,yl⟩:=HC0.out _ hF;have HFr:=hid hF;clear hF;by_cases hlt:k<n
  ·have hd:decide ((k:Int)<(n:Int))=true:=by simp;omega
   have hki:(k:Int)<(n:Int):=oM
   have hkw:wrap64 ((k:Int)+1)=((k+1:Nat):Int):=bM0 oM;obtain⟨x,hx⟩:∃ x,es[k]?=some x:=⟨_,gE (by rw[HN.out];exact hlt)⟩
   have hE1:=oN HE.out.1 (HF.out.trans HFr.out nI);have hF1:=oN HE.out.2 (HF.out.trans HFr.out nI);rw[HN.out] at hF1;obtain⟨ga,rfl,hga,c0,c1,c2,c3⟩:=cw0 hF1 hx;rw[<- HN.out] at hE1;obtain⟨gb,rfl,hgb,e0,e1,e2,e3⟩:=bG0 hE1 hx;have HC:=hid (fun V (F:Fq wr V)=>aI (HC0.out V (HFr.out.trans F nI)) (aI (nc0 F hga c0 c1 c2 c3) (nc0 F hgb e0 e1 e2 e3)));have hne:∀ W,(binOp .neq 118 (.agg #[.int .u64 x.hash,.int .i64 x.rg,.int .i64 x.at_,.int .i64 x.sz]) (.agg #[.int .u64 x.hash,.int .i64 x.rg,.int .i64 x.at_,.int .i64 x.sz])).run Tryz.prog W = .ok (.bool false) W:=zx0 x
   have FD:=(Fr.refl (fun _=>False) wr).drew;clear hE1 hF1 hx;go_upto_region 6 with fail
   clear x0 x1 x2 xz xl y0 y1 y2 yz yl c0 c1 c2 c3 hga e0 e1 e2 e3 hgb hkw;refine wp_region_noPanic ?_;refine aq0 (fun V=>Fq wr V) (.rd 0 (.rd 1 (.rd 2 (.rd 3 (.rd 4 (.rd 5 (.rd 6 (.rd 7 (.rd 8 (.rd 9 (.op 10 (.rd 11 .done)))))))))))) kF kF kF (fun _ _ _ _ _ h=>h) FD ?_;iterate 10
    try simp only[Act.put,sI,sZ,sS]
    refine ay0 _ ?_ gF rF ?_ ?_;rotate_left
    ·intro V hV;obtain⟨⟨⟨x0,x1,x2,xz,xl⟩,y0,y1,y2,yz,yl⟩,⟨c0,c1,c2,c3,hga⟩,e0,e1,e2,e3,hgb⟩:=HC.out V hV;go_simp;try with_reducible rfl
   try simp only[Act.put,sI,sZ,sS]
   refine az0 _ gF rF (fun K hK=>?_);go_simp
   (with_reducible refine (dO0 x _).mono ?_)
   rintro _ V1 ⟨rfl,G1⟩;have F1:=FD.trans G1 nI;refine hK _ _ F1 ?_;clear hK K;try simp only[Act.put,sI,sZ,sS]
   refine ay0 _ ?_ gF rF ?_ ?_;rotate_left
   ·intro V hV;go_simp;try with_reducible rfl
   refine ar0 ?_;refine NoPanic.normal ?_;try simp only[Act.put,sI,sZ,sS]
   have H1:=hid (HFr.out.trans F1 nI);clear F1 G1 FD;go_wp2_with fail
   go_roundw;case rel=>exact⟨k+1,hlt,by go_num,H1.out⟩
   case measure=>simp[intOf];omega
  ·obtain rfl:k=n:=by omega
   have hd:decide ((k:Int)<(k:Int))=false:=by simp
   go_wp2_with fail
   go_ret;exact⟨rfl,HF.out.trans HFr.out nI⟩
end
section
open Go.RowKit Go.Sg Go.Sg.Bits Go.Sg.Clk CP SF
variable {base:Nat}{v:Value}
theorem OwnB.frI {w w':World}{b:Nat}{l:Lb}(h:OwnB w b v l)(F:FrI base w w'):OwnB w' b v l:=by
 obtain⟨xs,h1,h2,h3⟩:=h;exact⟨xs,h1,FrI.own h2 dC F,fun x hx=>FrI.own (h3 x hx) dC F⟩
theorem mM0 {w0 w:World}{bs bv bx N G:Nat}{P:aQ0}{t:Tr}{sp:Int}(h:KqP w0 base bs bv bx P false N G t sp w)(hB:OwnB w 0 v (rows t 0 0))(hb:base<=w.heap.size)(hN:N+12<=90000) :
  Calls Tryz.prog 79 #[cG0 bx,ixV t.high 3 3 v sp] w (fun e w'=>e = .returned (.bool true)/\KqP w0 base bs bv bx P false (N+12) G t sp w'/\FrI base w w'):=by
 obtain⟨hg3,hok⟩:=h.high;obtain⟨va,vc,rfl⟩:=hB.slice;obtain⟨n,hn⟩:=eX ((rows t 0 0).length)
 have hnb:n<=8:=by rw[<- hn,gg0];exact uM0 hg3
 obtain⟨g,hg⟩:=eX t.high
 rw[hg,hn];rw[hn] at hB;obtain⟨w1,hw1⟩:=eX (w.alloc (.cells #[.int .i64 g,.int .i64 3,.int .i64 3,.slice va n vc,.int .i64 sp] 137))
 have F1:Fq w w1:=by rw[<- hw1];exact (Fr.refl _ _).alloc _
 obtain⟨z0,hz0⟩:=eX w.heap.size
 have b3:w1.heap[z0]?=some (.cells #[.int .i64 g,.int .i64 3,.int .i64 3,.slice va n vc,.int .i64 sp] 137):=by rw[<- hw1,<- hz0];exact han _ _
 have HSl:=hid (ut0 (h.fr0 F1) hN);have HW:=hid hw1;have HT:=hi2 hok (aI hn (aI hg (aI hB (aI F1 b3))));have HZ:=hid hz0;clear h hok hn hB hw1 F1 b3;go_enter Tryz.func79,Tryz.ntmps79;go_upto_region 1 with fail
 rw[HW.out];try simp only[HZ.out]
 go_wp2_with fail
 refine HSl.out.mono ?_;rintro e V2 ⟨v6,zs,t',rfl,hown,hmap,hbare,hbk,hK,FI⟩;obtain⟨sa,sc,rfl,-,-,-,-⟩:=oSl hown;obtain⟨m,hm⟩:=eX zs.length
 have hhi:t'.high=g:=by rw[<- bq0,hbare,HT.out.2.2.1]
 rw[HT.out.2.2.1] at hmap;have hmg:2^g=m:=by
  have:=congrArg List.length hmap;rw[ln9,hm,cI0 _ _ _ _ (ll9 hhi)] at this;exact this.symm
 have hm8:m<=8:=by rw[<- hmg];exact nT (lc9 dC (by rw[<- HT.out.2.2.1];exact hg3)) dC
 have HDp:=hid (fun V (F:Fq V2 V)=>nG0 (hK.fr0 F));rw[HT.out.2.2.1] at HDp;rw[hm];have hB2:=(HT.out.2.2.2.1.fr HT.out.2.2.2.2.1).frI FI;have hb2:V2.heap[z0]?=some (.cells #[.int .i64 g,.int .i64 3,.int .i64 3,.slice va n vc,.int .i64 sp] 137):=FI.heap HT.out.2.2.2.2.2 dC;have HI:=hid (fun V (F:Fq V2 V)=>cells5 (F.heap hb2 id));have hrows:rows t 0 0=rows t' 0 0:=by rw[<- hbare,ic0]
 have HCe:=hid (fun (q:Nat) (hq:q<m)=>show ∃ (gb:Nat) (z:Slt) (d p:Nat) (r:Rf) (es:List Bt),sa=some ⟨gb,0,none⟩/\(z.s=(d,p,r,es)/\bm0 V2 0 (.slice z.va es.length z.vc) es/\es.length<=3/\∃ i,(rows t 0 0).findIdx? (slB g q)=some i/\(rows t 0 0)[i]?=some (d,p,es))/\∀ V,Fq V2 V->gb<V.heap.size/\V.cell? ⟨gb,q*5+2,none⟩=some (.int .i64 d)/\V.cell? ⟨gb,q*5+3,none⟩=some (.int .i64 p)/\V.cell? ⟨gb,q*5+4,none⟩=some (.slice z.va es.length z.vc) by
  obtain⟨z,hz⟩:∃ z,zs[q]?=some z:=⟨_,gE oM⟩
  have hs:=fy0 t' g q 0 0 (ll9 hhi) oM;rw[<- hmap,gP,hz] at hs;obtain⟨⟨d,p,r,es⟩,hs'⟩:∃ s,t'.at_ g q 0 0=s:=⟨_,rfl⟩
  have hzs:z.s=(d,p,r,es):=by rw[<- hs'];exact Option.some.inj hs
  obtain⟨i,hi1,hi2⟩:=vw0 (show q<2^g by omega) (ll9 hhi) oM hs';obtain⟨hE,hbo⟩:=hbk z (gM hz);obtain⟨gb,rfl,hgb,k2⟩:=al0 hown (di0 (f:=bE0) (s:=5) (fun _=>rfl) zs q 2 z hz dC);obtain⟨g',e',-,k3⟩:=al0 hown (di0 (f:=bE0) (s:=5) (fun _=>rfl) zs q 3 z hz dC);cases e';obtain⟨g',e',-,k4⟩:=al0 hown (di0 (f:=bE0) (s:=5) (fun _=>rfl) zs q 4 z hz dC);cases e';rw[hzs] at hE hbo;simp only[hzs] at k2 k3 k4;exact⟨gb,z,d,p,r,es,rfl,⟨hzs,hE,hbo.1,i,by rw[hrows];exact hi1,by rw[hrows];exact hi2⟩,fun V F=>⟨nLL hgb F.size,(F.cell (p:=⟨gb,_,none⟩) hgb id).trans k2,(F.cell (p:=⟨gb,_,none⟩) hgb id).trans k3,(F.cell (p:=⟨gb,_,none⟩) hgb id).trans k4⟩⟩)
 have HEnd:=hi2 hK FI;have HMg:=hi2 hmg hB2;clear hown hmap hbare hhi hbk hK FI hm hmg hB2 hb2 hrows HSl;go_wp2_with fail
 go_loopw [7,8] (fun mv iv wr=>∃ q z:Nat,q<=g/\z=2^q/\mv = .int .i64 z/\iv = .int .i64 q/\wr=V2) (fun _ iv _=>g-(intOf iv).toNat)
 case atStart=>exact⟨0,1,la9 _,rfl,rfl,rfl,rfl⟩
 case round =>
  obtain⟨q,z,hq,hz,rfl,rfl,rfl⟩:=hrel;obtain⟨i0,i1,i2,i3,i4,iz,il⟩:=HI.out _ (Fr.refl _ _);have hz8:z<=8:=by rw[hz];exact nT (lc9 dC (show q<=3 by omega)) dC
  have HZz:=hid hz;clear hz;by_cases hq2:q<g
  ·have hqi:(q:Int)<(g:Int):=by omega
   have HZ2:=hid (show z*2=2^(q+1) by rw[HZz.out,lK9]);go_wp2_with fail
   go_roundw;case rel=>exact⟨q+1,z*2,hq2,HZ2.out,by go_num,by go_num,trivial⟩
   case measure=>simp[intOf];omega
  ·obtain rfl:q=g:=by omega
   have hqi:¬ (q:Int)<(q:Int):=oM
   obtain rfl:z=m:=by rw[HZz.out];exact HMg.out.1
   obtain⟨V2,rfl⟩:∃ W:World,W=wr:=⟨_,rfl⟩
   have hzz:((z:Int) != (z:Int))=false:=by simp
   have FD:=(Fr.refl (fun _=>False) V2).drew;have hgg:((q:Int) != (q:Int))=false:=by simp
   go_upto_region 7 with fail
   clear i0 i1 i2 i3 i4 iz il;refine wp_region_noPanic ?_;refine aq0 (fun V=>Fq V2 V) (.rd 0 (.rd 1 (.rd 2 (.rd 3 (.rd 5 (.rd 6 (.op 4 (.rd 7 (.rd 8 (.rd 9 (.rd 10 (.rd 11 (.rd 12 (.rd 13 (.rd 14 .done))))))))))))))) kF kF kF (fun _ _ _ _ _ h=>h) FD ?_;iterate 6
    try simp only[Act.put,sI,sZ,sS]
    refine ay0 _ ?_ gF rF ?_ ?_;rotate_left
    ·intro V hV;obtain⟨i0,i1,i2,i3,i4,iz,il⟩:=HI.out V hV;go_simp;try with_reducible rfl
   try simp only[Act.put,sI,sZ,sS]
   refine az0 _ gF rF (fun K hK=>?_);go_simp
   (with_reducible refine (HDp.out _ FD).mono ?_)
   rintro _ _ ⟨rfl,rfl⟩;refine hK _ _ FD ?_;clear hK K;iterate 8
    try simp only[Act.put,sI,sZ,sS]
    refine ay0 _ ?_ gF rF ?_ ?_;rotate_left
    ·intro V hV;go_simp;try with_reducible rfl
   refine ar0 ?_;refine NoPanic.normal ?_;try simp only[Act.put,sI,sZ,sS]
   go_wp2_with fail
   go_loopw [9] (fun iv wr=>∃ i:Nat,i<=z/\iv = .int .i64 i/\Fq V2 wr) (fun iv _=>z-(intOf iv).toNat)
   case atStart=>exact⟨0,la9 _,rfl,FD⟩
   case round =>
    obtain⟨wo,rfl⟩:∃ W:World,W=wr:=⟨_,rfl⟩
    obtain⟨i,hin,rfl,hFo⟩:=hrel;by_cases hlt:i<z
    ·have hii:(i:Int)<(z:Int):=oM;obtain⟨gb,zz,d,p,r,es,rfl,⟨hzs,hE,hes,j,hj1,hj2⟩,hce⟩:=HCe.out i hlt;obtain⟨n3,hn3⟩:=eX es.length
     have hsl:=fun V (F:Fq V2 V)=>uG0 (HMg.out.2.fr F) (by rw[HT.out.2.1];omega) q oM 3 3 sp i oM (fun b hb=>by have:=rows_ok HT.out.1 b hb;have:=HT.out.2.2.1;omega) hj1 hj2
     have HSlo:=hid hsl;have HS:=hi2 hE (aI hes hn3);have HC:=hid (fun V (F:Fq V2 V)=>aI (HI.out V F) (hce V F));have HFo:=hid hFo;have FDo:Fq V2 wo.drew:=hFo.drew;rw[hn3] at HC;clear hzs hE hes hj1 hj2 hce hn3 hsl hFo FD;go_upto_region 12 with fail
     refine wp_region_noPanic ?_;refine aq0 (fun V=>Fq V2 V) (.rd 0 (.rd 1 (.rd 2 (.rd 3 (.rd 4 (.rd 5 (.rd 6 (.op 7 (.op 8 (.rd 9 .done)))))))))) kF kF kF (fun _ _ _ _ _ h=>h) FDo ?_;iterate 7
      try simp only[Act.put,sI,sZ,sS]
      refine ay0 _ ?_ gF rF ?_ ?_;rotate_left
      ·intro V hV;obtain⟨⟨i0,i1,i2,i3,i4,iz,il⟩,hg,c2,c3,c4⟩:=HC.out V hV;go_simp;try with_reducible rfl
     try simp only[Act.put,sI,sZ,sS]
     refine az0 _ gF rF (fun K hK=>?_);go_simp
     (with_reducible refine (HSlo.out _ FDo).mono ?_)
     rintro _ W1 ⟨ua,uc,rfl,hF1,G1⟩;have F1:=FDo.trans G1 nI;refine hK _ _ F1 ?_;clear hK K;have htd:=xP0 (w:=W1) (d:=d) (p:=p) (oN HS.out.1 F1) hF1 (by have:=HS.out.2.1;omega);rw[HS.out.2.2] at htd;have HTd:=hid htd;clear htd hF1;simp only[HS.out.2.2];try simp only[Act.put,sI,sZ,sS]
     refine az0 _ gF rF (fun K hK=>?_);go_simp
     (with_reducible refine HTd.out.mono ?_)
     rintro _ W2 ⟨rfl,G2⟩;have F2:=F1.trans G2 nI;refine hK _ _ F2 ?_;clear hK K;try simp only[Act.put,sI,sZ,sS]
     refine ay0 _ ?_ gF rF ?_ ?_;rotate_left
     ·intro V hV;go_simp;try with_reducible rfl
     refine ar0 ?_;refine NoPanic.normal ?_;try simp only[Act.put,sI,sZ,sS]
     have H2:=hid F2;clear F1 F2 G1 G2 FDo;go_wp2_with fail
     go_roundw;case rel=>exact⟨i+1,hlt,by go_num,H2.out⟩
     case measure=>simp[intOf];omega
    ·obtain rfl:i=z:=by omega
     have hii:¬ (i:Int)<(i:Int):=oM;have HE:=hi2 (HEnd.out.1.fr0 hFo) (FrI.trans (FrI.none HT.out.2.2.2.2.1) (FrI.trans HEnd.out.2 (FrI.none hFo)));clear hFo FD;go_wp2_with fail
     go_ret;exact⟨rfl,HE.out⟩
