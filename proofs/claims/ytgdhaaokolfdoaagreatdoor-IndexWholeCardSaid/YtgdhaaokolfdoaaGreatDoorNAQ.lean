/- A pack of texts. Conditions: those that each names. -/
import Derived.Test.YtgdhaaokolfdoaaGreatDoorNAP
set_option maxHeartbeats 16000000
set_option maxRecDepth 100000
set_option linter.all false
namespace Go.Proofs.YtgdhaaokolfdoaaGreatDoor
open Go.RowKit Go.Sg CP SF Tryz
structure P1 where
 per:Nat
 most:Nat
 depth:Nat
 rp:Int
 rs:Int
abbrev P1.cells (x:P1)(s:Nat):Array Value:=#[pO s,iI x.per,iI x.most,iI x.depth,iI x.rp,iI x.rs]
def N2 (w:w9)(bd s:Nat)(x:P1):Prop:=w.heap[bd]?=some (.cells (x.cells s) 209)
variable {w:w9}{bd d s:Nat}
def z7 {b:Nat}{x0 x1 x2 x3 x4 x5:Value}{t:TypeId}(h:w.heap[b]?=some (.cells #[x0,x1,x2,x3,x4,x5] t)) :
  w.cell? b=some x0/\w.cell? (aA b 1)=some x1/\w.cell? (aA b 2)=some x2/\w.cell? (aA b 3)=some x3/\w.cell? (aA b 4)=some x4/\w.cell? (aA b 5)=some x5/\(∀ o,w.frozen? ⟨b,o,none⟩=false)/\b<w:=
 ⟨by simpa using G0 h 0,by simpa using G0 h 1,by simpa using G0 h 2,by simpa using G0 h 3,by simpa using G0 h 4,by simpa using G0 h 5,fun o=>X2 h o,M0 h⟩
abbrev A7 (bd:Nat):Value:=pO bd
abbrev cV (p s:Int):Value:=.agg #[iI p,iI s]
def si (p s:Int):Bool:=decide (0<=p) && decide (p<=2147483647) && decide (0<=s)
def QA (p s:Int)(w:w9)(e:Ending)(w':w9):Prop:=e = rT (bO (si p s))/\Fq w w'
def Tl (p s:Int)(w:w9):cP 117 #[cV p s] w (QA p s w):=by
 obtain⟨w1,I0⟩:=eX (w.alloc (.cells #[iI p,iI s] 35))
 have b0:=fB I0
 have HF:=hid (show Fq w w1 by rw[<- I0];exact fR.alloc _);obtain⟨c0,c1,cz,cl⟩:=cells2 b0;have HW:=hid I0;clear I0 b0;go_enter func117,ntmps117;go_upto_region 1 with fail
 rw[HW];by_cases h1:0<=p
 .have d1:decide ((0:Int)<=p)=true:=decide_eq_true h1;by_cases h2:p<=2147483647
  .have d2:decide (p<=(2147483647:Int))=true:=decide_eq_true h2;by_cases h3:0<=s
   .have d3:decide ((0:Int)<=s)=true:=decide_eq_true h3;go_wp2_with fail
    refine bodyPost_ret (v:=bO true) sR rfl ⟨by simp[si,d1,d2,d3],HF.o⟩
   .have d3:decide ((0:Int)<=s)=false:=decide_eq_false h3;go_wp2_with fail
    refine bodyPost_ret (v:=bO false) sR rfl ⟨by simp[si,d1,d2,d3],HF.o⟩
  .have d2:decide (p<=(2147483647:Int))=false:=decide_eq_false h2;go_wp2_with fail
   refine bodyPost_ret (v:=bO false) sR rfl ⟨by simp[si,d1,d2],HF.o⟩
 .have d1:decide ((0:Int)<=p)=false:=decide_eq_false h1;go_wp2_with fail
  refine bodyPost_ret (v:=bO false) sR rfl ⟨by simp[si,d1],HF.o⟩
def P1.slots (x:P1):Nat:=2^x.depth
def P1.leaves (x:P1):Nat:=(x.slots+x.per-1)/x.per
def P1.Ab (x:P1)(i:Nat):Nat:=min x.per (x.slots-i*x.per)
def BT (v:Value)(w:w9)(e:Ending)(w':w9):Prop:=e = rT v/\∃ m,w'=w.drewN m
def jJ0 {P:Program}{f:FuncId}{args:Array Value}{n:Nat}{v:Value}(h:Calls P f args (w.drewN n) (BT v (w.drewN n))):Calls P f args (w.drewN n) fun e w''=>e = rT v/\∃ m,w''=w.drewN m:=
 h.mono fun _ _ ⟨he,m,hm⟩=>⟨he,n+m,by rw[hm];simp[World.drewN,qg]⟩
def mZ0 (h:d<=20):2^d<=1048576/\0<2^d:=⟨nT (aZ dC h) dC,iu dC⟩
def OD (h:d<=20):wrap64 (2^d)=((2^d:Nat):Int):=by
 obtain⟨h1,h2⟩:=mZ0 h;have e:(2:Int)^d=((2^d:Nat):Int):=by simp
 rw[e];generalize 2^d=n at *
 simp only[wrap64];omega
variable {x:P1}
def OF (h:N2 w bd s x)(hd:x.depth<=20):cP 125 #[A7 bd] w (BT (iI x.slots) w):=by
 obtain⟨c0,c1,c2,c3,c4,c5,cz,cl⟩:=z7 h;have HP:=hid (OD hd);clear h;go_enter func125,ntmps125;go_wp2_with fail
 rw[HP];go_ret;exact⟨rfl,0,rfl⟩
def NZ (hd:x.depth<=20):x.slots<=1048576/\0<x.slots:=mZ0 hd
def mo0 (h:N2 w bd s x)(hd:x.depth<=20)(hp:0<x.per)(hp':x.per<=65536):cP 182 #[A7 bd] w (BT (iI x.leaves) w):=by
 obtain⟨c0,c1,c2,c3,c4,c5,cz,cl⟩:=z7 h;have kS:=hid fun W (F:Fq w W)=>OF (F.heap h id:N2 W bd s x) hd;obtain⟨E3,fP⟩:=NZ hd;have HL:=hid (show (x.slots+x.per-1)/x.per=x.leaves from rfl);clear h;generalize x.slots=n at *
 have e2:((n:Int)+(x.per:Int)-1)/(x.per:Int)=(x.leaves:Int):=by
  rw[show (n:Int)+(x.per:Int)-1=((n+x.per-1:Nat):Int) by omega,<- HL.o];simp
 have HE:=hid e2;clear e2;go_enter func182,ntmps182;go_wp2_with fail
 go_quiet ((go_at_call 125;exact jJ0 (kS _ (fR.drewN _))))
 go_wp2_with fail
 refine bodyPost_ret (v:=iI x.leaves) (by simp[results,go_sem,HE.o]) rfl ⟨rfl,_,rfl⟩
def tt0 (h:N2 w bd s x)(hd:x.depth<=20)(hp:0<x.per)(hp':x.per<=65536)(i:Nat)(hi:i*x.per<=x.slots):cP 183 #[A7 bd,iI i] w (BT (iI (x.Ab i)) w):=by
 obtain⟨c0,c1,c2,c3,c4,c5,cz,cl⟩:=z7 h;have kS:=hid fun W (F:Fq w W)=>OF (F.heap h id:N2 W bd s x) hd;obtain⟨E3,fP⟩:=NZ hd;have HL:=hid (show min x.per (x.slots-i*x.per)=x.Ab i from rfl);clear h;generalize x.slots=n at *
 obtain⟨ip,Vg⟩:=eX (i*x.per)
 have e1:(i:Int)*(x.per:Int)=(ip:Int):=by rw[<- Vg];simp
 rw[Vg] at hi HL;have hw:wrap64 ((i:Int)*(x.per:Int))=(ip:Int):=by rw[e1];simp only[wrap64];omega
 have HE:=hid e1;clear Vg;go_enter func183,ntmps183;go_wp2_with fail
 go_quiet ((go_at_call 125;exact jJ0 (kS _ (fR.drewN _))))
 go_wp2_with fail
 have hm:min (x.per:Int) ((n:Int)-(ip:Int))=(x.Ab i:Int):=by rw[<- HL];omega
 refine bodyPost_ret (v:=iI (x.Ab i)) (by simp[results,go_sem,hm]) rfl ⟨rfl,_,rfl⟩
def AA (n:Int)(w:w9)(e:Ending)(w':w9):Prop:=e = rT (iI n)/\w=w'
def In (h:N2 w bd s x):cP 56 #[A7 bd] w (AA x.depth w):=by
 obtain⟨c0,c1,c2,c3,c4,c5,cz,cl⟩:=z7 h;clear h;go_enter func56,ntmps56;go_wp2_with fail
 go_ret;exact⟨rfl,rfl⟩
def YF (p s:Int)(w:w9)(e:Ending)(w':w9):Prop:=e = rT (cV p s)/\Fq w w'
def zL0 (h:N2 w bd s x):cP 57 #[A7 bd] w (YF x.rp x.rs w):=by
 obtain⟨c0,c1,c2,c3,c4,c5,cz,cl⟩:=z7 h;clear h;go_enter func57,ntmps57;go_wp2_with fail
 refine bodyPost_ret (v:=cV x.rp x.rs) sR rfl ⟨rfl,?_⟩;with_reducible (repeat (first|exact fR|apply Fr.drew|apply Fr.alloc|refine Fr.U2 ?_ oM _))
end Go.Proofs.YtgdhaaokolfdoaaGreatDoor
namespace Go.Sg
structure Bt where
 hash:Nat
 rg:Int
 at_:Int
 sz:Int
 deriving DecidableEq
inductive Tr where
 | leaf (r:Int × Int) (es:List Bt)
 | node (l r:Tr)
namespace Tr
def high:Tr->Nat
 | leaf _ _=>0
 | node l r=>max l.high r.high+1
def slots:Tr->Nat->List (Int × Int)
 | leaf r _,g=>List.replicate (2^g) r
 | node l r,g=>l.slots (g-1)++r.slots (g-1)
def refs:Tr->List (Int × Int)
 | leaf r _=>[r]
 | node l r=>l.refs++r.refs
def at_:Tr->Nat->Nat->Nat->Nat->Nat × Nat × (Int × Int) × List Bt
 | leaf r es,_,_,d,p=>(d,p,r,es)
 | node l r,g,k,d,p=>if k<2^(g-1) then l.at_ (g-1) k (d+1) (2*p) else r.at_ (g-1) (k-2^(g-1)) (d+1) (2*p+1)
def put:Tr->Nat->Nat->((Int × Int)->List Bt->Tr)->Tr
 | leaf r es,_,_,f=>f r es
 | node l r,g,k,f=>if k<2^(g-1) then node (l.put (g-1) k f) r else node l (r.put (g-1) (k-2^(g-1)) f)
def uO:∀ (t:Tr) (g:Nat),t.high<=g->(t.slots g).length=2^g
 | leaf _ _,g,_=>by simp[slots]
 | node l r,g,h=>by
  simp only[high] at h;rw[slots,lA,uO l (g-1) oM,uO r (g-1) oM];obtain⟨k,rfl⟩:∃ k,g=k+1:=⟨g-1,oM⟩
  simp only[vJ,dB];omega
def se {g:Nat}(h:1<=g):2^g=2^(g-1)+2^(g-1):=by
 obtain⟨k,rfl⟩:∃ k,g=k+1:=⟨g-1,oM⟩
 simp only[vJ,dB];omega
def OG:∀ (t:Tr) (g k d p:Nat),t.high<=g->k<2^g->(t.slots g)[k]?=some (t.at_ g k d p).2.2.1
 | leaf r es,g,k,d,p,_,hk=>by
  simp only[slots,at_];rw[rk,if_pos hk]
 | node l r,g,k,d,p,h,hk=>by
  simp only[high] at h;have h2:=se (g:=g) oM;have hl:=uO l (g-1) oM;simp only[slots,at_];by_cases hlt:k<2^(g-1)
  .rw[if_pos hlt,jn (by rw[hl];exact hlt)];exact OG l (g-1) k _ _ oM hlt
  .rw[if_neg hlt,kN (by rw[hl];omega),hl];exact OG r (g-1) _ _ _ oM oM
def BH:∀ (t:Tr) (g k d p:Nat),(t.at_ g k d p).1<=d+t.high
 | leaf _ _,_,_,d,_=>by simp[at_,high]
 | node l r,g,k,d,p=>by
  simp only[at_,high];split
  .have:=BH l (g-1) k (d+1) (2*p);omega
  .have:=BH r (g-1) (k-2^(g-1)) (d+1) (2*p+1);omega
def QS:∀ (t:Tr) (g k d p:Nat),d<=(t.at_ g k d p).1
 | leaf _ _,_,_,d,_=>by simp[at_]
 | node l r,g,k,d,p=>by
  simp only[at_];split
  .have:=QS l (g-1) k (d+1) (2*p);omega
  .have:=QS r (g-1) (k-2^(g-1)) (d+1) (2*p+1);omega
def Ma:∀ (t:Tr) (g k d p:Nat),t.high<=g->k<2^g->(t.at_ g k d p).2.1=(p*2^g+k)/2^(d+g-(t.at_ g k d p).1)
 | leaf _ _,g,k,d,p,_,hk=>by
  simp only[at_];rw[show d+g-d=g by omega,dU,Nat.mul_add_div (iu dC),DK hk];omega
 | node l r,g,k,d,p,h,hk=>by
  simp only[high] at h;have h2:=se (g:=g) oM;simp only[at_];by_cases hlt:k<2^(g-1)
  .rw[if_pos hlt];have:=Ma l (g-1) k (d+1) (2*p) oM hlt;rw[this,show d+1+(g-1)=d+g by omega];congr 1
   rw[h2,uf,dU 2 p,DM,Nat.two_mul,uf]
  .rw[if_neg hlt];have:=Ma r (g-1) (k-2^(g-1)) (d+1) (2*p+1) oM oM;rw[this,show d+1+(g-1)=d+g by omega];congr 1
   rw[h2,DU,uf,dU 2 p,DM,Nat.two_mul,uf];omega
def Wv:∀ (t:Tr) (g:Nat),t.high<=g->t.slots (g+1)=(t.slots g).flatMap fun r=>[r,r]
 | leaf r _,g,_=>by
  simp only[slots];rw[dB];generalize 2^g=n;induction n with
  | zero=>rfl
  | succ n ih=>rw[List.replicate_succ,dj,<- ih,show (n+1)*2=n*2+1+1 by omega];rfl
 | node l r,g,h=>by
  simp only[high] at h;obtain⟨k,rfl⟩:∃ k,g=k+1:=⟨g-1,oM⟩
  simp only[slots,vJ,dY];rw[Wv l k oM,Wv r k oM]
end Tr
namespace Tr
def lo:Tr->Nat->Nat->Nat
 | leaf _ _,_,_=>0
 | node l r,g,k=>if k<2^(g-1) then l.lo (g-1) k else 2^(g-1)+r.lo (g-1) (k-2^(g-1))
def wd:Tr->Nat->Nat->Nat
 | leaf _ _,g,_=>g
 | node l r,g,k=>if k<2^(g-1) then l.wd (g-1) k else r.wd (g-1) (k-2^(g-1))
def OE:∀ (t:Tr) (g k d p:Nat),t.high<=g->(t.at_ g k d p).1+t.wd g k=d+g
 | leaf _ _,g,_,d,_,_=>rfl
 | node l r,g,k,d,p,h=>by
  simp only[high] at h;simp only[at_,wd];split
  .have:=OE l (g-1) k (d+1) (2*p) oM;omega
  .have:=OE r (g-1) (k-2^(g-1)) (d+1) (2*p+1) oM;omega
def QN:∀ (t:Tr) (g k d p:Nat),t.high<=g->p*2^g+t.lo g k=(t.at_ g k d p).2.1*2^t.wd g k
 | leaf _ _,g,_,d,p,_=>by simp[at_,lo,wd]
 | node l r,g,k,d,p,h=>by
  simp only[high] at h;have h2:=se (g:=g) oM;simp only[at_,wd,lo];split
  .have:=QN l (g-1) k (d+1) (2*p) oM;rw[<- this,h2,uf,dU 2 p,DM,Nat.two_mul,uf]
  .have:=QN r (g-1) (k-2^(g-1)) (d+1) (2*p+1) oM;rw[<- this,h2,DU,uf,dU 2 p,DM,Nat.two_mul,uf];omega
def lo_le:∀ (t:Tr) (g k:Nat),t.high<=g->k<2^g->t.lo g k<=k/\k<t.lo g k+2^t.wd g k/\t.lo g k+2^t.wd g k<=2^g
 | leaf _ _,g,k,_,hk=>by simp[lo,wd];exact hk
 | node l r,g,k,h,hk=>by
  simp only[high] at h;have h2:=se (g:=g) oM;simp only[lo,wd];split
  .have:=lo_le l (g-1) k oM (by assumption);omega
  .have:=lo_le r (g-1) (k-2^(g-1)) oM oM;omega
def mR0 (f:(Int × Int)->List Bt->Tr):∀ (t:Tr) (g k:Nat),t.high<=g->k<2^g ->
  (t.put g k f).slots g=(t.slots g).take (t.lo g k)++(f (t.at_ g k 0 0).2.2.1 (t.at_ g k 0 0).2.2.2).slots (t.wd g k)++(t.slots g).drop (t.lo g k+2^t.wd g k):=by
 suffices H:∀ (t:Tr) (g k d p:Nat),t.high<=g->k<2^g ->
   (t.put g k f).slots g=(t.slots g).take (t.lo g k)++(f (t.at_ g k d p).2.2.1 (t.at_ g k d p).2.2.2).slots (t.wd g k)++(t.slots g).drop (t.lo g k+2^t.wd g k) from fun t g k=>H t g k 0 0
 intro t;induction t with
 | leaf r es =>
  intro g k d p _ hk;simp only[put,slots,lo,wd,at_,List.take_zero,C7];rw[Qg sP,vL]
 | node l r ihl ihr =>
  intro g k d p h hk;simp only[high] at h;have h2:=se (g:=g) oM;have hl:=uO l (g-1) oM;simp only[put,slots,lo,wd,at_];by_cases hlt:k<2^(g-1)
  .have jD:=lo_le l (g-1) k oM hlt;rw[if_pos hlt,if_pos hlt,if_pos hlt,if_pos hlt];simp only[slots];rw[ihl (g-1) k (d+1) (2*p) oM hlt,FK oM,Xx oM];simp only[dD]
  .have jD:=lo_le r (g-1) (k-2^(g-1)) oM oM;rw[if_neg hlt,if_neg hlt,if_neg hlt,if_neg hlt];simp only[slots];rw[ihr (g-1) (k-2^(g-1)) (d+1) (2*p+1) oM oM,<- hl,List.take_length_add_append,qg,List.drop_length_add_append];simp only[dD]
def uW0:∀ (t:Tr) (g k j:Nat),t.high<=g->k<2^g->t.lo g k<=j->j<t.lo g k+2^t.wd g k->t.at_ g j 0 0=t.at_ g k 0 0:=by
 suffices H:∀ (t:Tr) (g k j d p:Nat),t.high<=g->k<2^g->t.lo g k<=j->j<t.lo g k+2^t.wd g k->t.at_ g j d p=t.at_ g k d p from fun t g k j=>H t g k j 0 0
 intro t;induction t with
 | leaf r es=>intros;rfl
 | node l r ihl ihr =>
  intro g k j d p h hk h1 eU;simp only[high] at h;have h2:=se (g:=g) oM;simp only[lo,wd] at h1 eU;simp only[at_];by_cases hlt:k<2^(g-1)
  .rw[if_pos hlt] at h1;rw[if_pos hlt,if_pos hlt] at eU;have jD:=lo_le l (g-1) k oM hlt;rw[if_pos hlt,if_pos oM];exact ihl (g-1) k j _ _ oM hlt h1 eU
  .rw[if_neg hlt] at h1;rw[if_neg hlt,if_neg hlt] at eU;have jD:=lo_le r (g-1) (k-2^(g-1)) oM oM;rw[if_neg hlt,if_neg oM];exact ihr (g-1) _ _ _ _ oM oM oM oM
end Tr
end Go.Sg
namespace Go.Proofs.YtgdhaaokolfdoaaGreatDoor
open Go.RowKit Go.Sg CP SF Tryz
abbrev Q1 (e:Bt):List Value:=[iU e.hash,iI e.rg,iI e.at_,iI e.sz]
abbrev E8 (e:Bt):Value:=.agg #[iU e.hash,iI e.rg,iI e.at_,iI e.sz]
abbrev E9 (d p:Int)(v:Value):Value:=.agg #[iI d,iI p,v]
abbrev Y3 (w:w9)(base:Nat)(v:Value)(es:List Bt):Prop:=w.ownsRow base 118 4 v es.length (es.flatMap Q1)
def jX (l:List Bt):(l.flatMap Q1).length=l.length*4:=by
 induction l with
 | nil=>rfl
 | cons x l ih=>simp only[dj,lA,ih,lC];simp;omega
def xO0 (l:List Bt):∀ (i:Nat) (x:Bt),l[i]?=some x->(l.flatMap Q1)[i*4]?=some (iU x.hash)/\(l.flatMap Q1)[i*4+1]?=some (iI x.rg)/\(l.flatMap Q1)[i*4+2]?=some (iI x.at_)/\(l.flatMap Q1)[i*4+3]?=some (iI x.sz):=by
 induction l with
 | nil=>intro i x h;simp at h
 | cons y l ih =>
  intro i x h;cases i with
  | zero=>simp at h;subst h;simp[Q1]
  | succ i =>
   rw[gS] at h;have:=ih i x h;rw[show (i+1)*4=i*4+4 by omega];simpa[dj,Q1] using this
variable {w:w9}{h j k y:Nat}{x:Bt}{v:Value}
def pj {base c:Nat}{a:Option Addr}{l:List Bt}(h:Y3 w base (sL a l.length c) l)(hx:l[k]?=some x) :
  ∃ g,a=some ⟨g,0,none⟩/\g<w.heap.size/\w.cell? (aA g (k*4))=some (iU x.hash)/\w.cell? (aA g (k*4+1))=some (iI x.rg)/\w.cell? (aA g (k*4+2))=some (iI x.at_)/\w.cell? (aA g (k*4+3))=some (iI x.sz):=by
 obtain⟨f0,f1,f2,f3⟩:=xO0 l k x hx;obtain⟨g,e,hg,h0⟩:=d8 h f0;obtain⟨g1,e1,_,h1⟩:=d8 h f1;obtain⟨g2,e2,_,h2⟩:=d8 h f2;obtain⟨g3,e3,_,h3⟩:=d8 h f3;rw[e] at e1 e2 e3;cases e1;cases e2;cases e3;exact⟨g,e,hg,h0,h1,h2,h3⟩
def co (es:List Bt)(h:Nat):Nat:=(es.takeWhile fun e=>decide (e.hash<h)).length
def hasB (es:List Bt)(h:Nat):Bool:=es.any fun e=>decide (e.hash=h)
def m9 (es:List Bt):Prop:=es.Pairwise fun x y=>x.hash<y.hash
def QH (es:List Bt)(h:Nat):co es h<=es.length:=(List.takeWhile_prefix _).length_le
variable {es:List Bt}
def DF (hs:m9 es)(hx:es[k]?=some x):k<co es h↔x.hash<h:=by
 induction es generalizing k with
 | nil=>simp at hx
 | cons e es ih =>
  have fO:m9 es:=(DO.1 hs).2;have h1:=(DO.1 hs).1;unfold co;rw[List.takeWhile_cons];cases k with
  | zero =>
   simp at hx;subst hx;by_cases hh:e.hash<h
   .simp[hh]
   .simp[hh]
  | succ k =>
   rw[gS] at hx;by_cases hh:e.hash<h
   .simp only[hh,decide_true,if_true,lC,Nat.add_lt_add_iff_right];exact ih fO hx
   .have:=h1 x (gM hx);simp only[hh,decide_false,jI,if_false,cJ,Nat.not_lt_zero,false_iff];omega
def yu0 (hs:m9 es)(hj:j<=es.length)(h1:∀ (k:Nat) (x:Bt),k<j->es[k]?=some x->x.hash<h)(h2:∀ (k:Nat) (x:Bt),j<=k->es[k]?=some x->¬ x.hash<h):co es h=j:=by
 have jD:=QH es h;rcases Nat.lt_trichotomy (co es h) j with hlt|rfl|hlt
 .obtain⟨x,hx⟩:∃ x,es[co es h]?=some x:=⟨_,gE oM⟩
  have:=(DF hs hx).2 (h1 _ x hlt hx);omega
 .rfl
 .obtain⟨x,hx⟩:∃ x,es[j]?=some x:=⟨_,gE oM⟩
  exact absurd ((DF hs hx).1 hlt) (h2 j x (nR _) hx)
def uS (hs:m9 es):hasB es h=true↔∃ x,es[co es h]?=some x/\x.hash=h:=by
 unfold hasB;rw[vK];constructor
 .rintro⟨x,hx,he⟩;simp at he;obtain⟨k,hk,Vp⟩:=Qi hx;have C6:es[k]?=some x:=by rw[gE hk,Vp]
  have e:co es h=k:=yu0 hs oM (fun j y hj hy=>by
   have:=xT.1 hs j k oM hk hj;rw[gE oM] at hy;cases hy;rw[Vp] at this;omega) (fun j y hj hy=>by
   rcases jL k j with hlt|cE
   .have hjl:=(gI.1 hy).1;have:=xT.1 hs k j hk hjl hlt;rw[gE hjl] at hy;cases hy;rw[Vp] at this;omega
   .obtain rfl:j=k:=by omega
    rw[C6] at hy;cases hy;omega)
  rw[e];exact⟨x,C6,he⟩
 .rintro⟨x,hx,he⟩;exact⟨x,gM hx,by simpa using he⟩
def Wu (hs:m9 es){i:Nat}{y:Bt}(hx:es[i]?=some x)(hy:es[j]?=some y)(h:i<j):x.hash<y.hash:=by
 obtain⟨h1,e1⟩:=gI.1 hx;obtain⟨h2,e2⟩:=gI.1 hy;have:=xT.1 hs i j h1 h2 h;rw[e1,e2] at this;exact this
def Af (b:Bool)(w:w9)(e:Ending)(w':w9):Prop:=e = rT (bO b)/\w=w'
def NY (n m:Int)(w:w9):cP 241 #[iI n,iI m] w (Af (decide (0<=n) && decide (n<=m)) w):=by
 by_cases h1:0<=n
 .have d1:decide ((0:Int)<=n)=true:=decide_eq_true h1;by_cases h2:n<=m
  .have d2:decide (n<=m)=true:=decide_eq_true h2;rw[d1,d2];go_enter func241,ntmps241;go_wp2_with fail
   go_ret;exact⟨rfl,rfl⟩
  .have d2:decide (n<=m)=false:=decide_eq_false h2;rw[d1,d2];go_enter func241,ntmps241;go_wp2_with fail
   go_ret;exact⟨rfl,rfl⟩
 .have d1:decide ((0:Int)<=n)=false:=decide_eq_false h1;rw[d1];go_enter func241,ntmps241;go_wp2_with fail
  go_ret;exact⟨rfl,rfl⟩
def pm0 (n:Nat)(w:w9):cP 277 #[iU n] w (Af false w):=by
 go_enter func277,ntmps277;go_wp2_with fail
 go_ret;exact⟨rfl,rfl⟩
def qi (x y:Nat):Int:=if x<y then -1 else if y<x then 1 else 0
def vX0 (x y:Nat)(w:w9):cP 252 #[iU x,iU y] w (AA (qi x y) w):=by
 have key:(decide (x<y)=true/\qi x y = -1)\/(decide (x<y)=false/\decide (y<x)=true/\qi x y=1)\/(decide (x<y)=false/\decide (y<x)=false/\qi x y=0):=by
  unfold qi;by_cases h1:x<y
  .left;rw[if_pos h1];exact⟨by simp;omega,rfl⟩
  .right;by_cases h2:y<x
   .left;rw[if_neg h1,if_pos h2];exact⟨by simp;omega,by simp;omega,rfl⟩
   .right;rw[if_neg h1,if_neg h2];exact⟨by simp;omega,by simp;omega,rfl⟩
 rcases key with⟨d1,e⟩|⟨d1,d2,e⟩|⟨d1,d2,e⟩
 all_goals
  rw[e];clear e;go_enter func252,ntmps252;go_wp2_with fail
  refine (pm0 x w).mono ?_;rintro e _ ⟨rfl,rfl⟩;go_wp2_with fail
  refine (pm0 y w).mono ?_;rintro e _ ⟨rfl,rfl⟩;go_wp2_with fail
  go_ret;exact⟨rfl,rfl⟩
def bt (v:Value)(w:w9)(e:Ending)(w':w9):Prop:=e = rT v/\Fq w w'
def Xe (x:Bt)(h:Nat)(w:w9):cP 251 #[E8 x,iU h] w (bt (iI (qi x.hash h)) w):=by
 obtain⟨w1,I0⟩:=eX (w.alloc (.cells #[iU x.hash,iI x.rg,iI x.at_,iI x.sz] 118))
 have b1:=fB I0
 have HF:=hid (show Fq w w1 by rw[<- I0];exact fR.alloc _);have c0:w1.cell? w=some (iU x.hash):=by simpa using G0 b1 0
 have HW:=hid I0;clear I0 b1;go_enter func251,ntmps251;go_upto_region 1 with fail
 rw[HW];go_wp2_with fail
 refine (vX0 x.hash h w1).mono ?_;rintro e _ ⟨rfl,rfl⟩;go_wp2_with fail
 go_ret;exact⟨rfl,HF.o⟩
def rK0 (es:List Bt)(h:Nat)(w:w9)(e:Ending)(w':w9):Prop:=e = rT (tU #[iI (co es h),bO (hasB es h)])/\Fq w w'
def sh0 {x:Nat}:decide (qi x y<0)=decide (x<y):=by
 unfold qi;by_cases h1:x<y
 .simp[h1]
 .by_cases h2:y<x <;> simp[h1,h2]
def yO0 {x:Nat}:decide (qi x y=0)=decide (x=y):=by
 unfold qi;by_cases h1:x<y
 .have:¬ x=y:=by omega
  simp[h1,this]
 .by_cases h2:y<x
  .have:¬ x=y:=by omega
   simp[h1,h2,this]
  .have:x=y:=by omega
   simp[this]
def uf0 (hE:Y3 w 0 v es)(hs:m9 es)(hl:es.length<=255)(h:Nat) :
  cP 250 #[v,iU h,.func (.func 251) #[] #[]] w (rK0 es h w):=by
 obtain⟨va,vc,rfl,-,-,-,-⟩:=A2 hE;obtain⟨n,hn⟩:=eX es.length
 have pP:n<=255:=oM
 have HE:=hid hE;have HN:=hid hn;have HS:=hid hs;rw[hn];clear hE hn hs hl;go_enter func250,ntmps250;go_wp2_with fail
 go_loopw [9,10] (fun iv jv wr=>∃ i j:Nat,iv = iI i/\jv = iI j/\i<=j/\j<=n/\(∀ (k:Nat) (x:Bt),k<i->es[k]?=some x->x.hash<h)/\(∀ (k:Nat) (x:Bt),j<=k->es[k]?=some x->¬ x.hash<h)/\Fq w wr) fun iv jv _=>(intOf jv).toNat-(intOf iv).toNat
 case atStart=>exact⟨0,n,rfl,rfl,C3 _,nR _,fun k x hk=>oM,fun k x hk hx=>by have:=(gI.1 hx).1;rw[HN] at this;omega,fR⟩
 case round =>
  obtain⟨i,j,rfl,rfl,CW,hj,h1,h2,hF⟩:=hrel;have Q9:=hi2 h1 (aI h2 hF);clear h1 h2 hF;by_cases hlt:i<j
  .have hd:decide (i<j)=true:=by simp[hlt]
   obtain⟨m,hm⟩:∃ m:Nat,(i+j)/2=m:=⟨_,rfl⟩
   have fd:i<=m/\m<j:=oM
   obtain⟨x,hx⟩:∃ x,es[m]?=some x:=⟨_,gE (by rw[HN.o];omega)⟩
   have hmI:((i:Int)+(j:Int))/2=(m:Int):=oM
   have zP:(m:Int)<(n:Int):=oM
   obtain⟨g,rfl,hg,u0,u1,u2,u3⟩:=pj (oN HE Q9.2.2) hx;have HX:=hid hx;have HM:=hid hm;clear hx hm;by_cases Kn:x.hash<h
   .have xq:decide (qi x.hash h<0)=true:=(by rw[sh0];simp[Kn]);have HC:=hid Kn;clear Kn;go_wp2_with fail
    refine (Xe x h wr).mono ?_;rintro e w2 ⟨rfl,F2⟩;have Y0:=hid F2;clear F2;go_wp2_with fail
    go_roundw;case rel =>
     obtain⟨h1,h2,hF⟩:=Q9.o;refine⟨m+1,j,by go_num,rfl,oM,hj,fun k y hk hy=>?_,h2,hF.trans Y0 nI⟩;rcases jL k m with aw|aw
     .exact Nat.lt_trans (Wu HS hy HX aw) HC.o
     .obtain rfl:k=m:=by omega
      rw[HX] at hy;cases hy;exact HC
    case measure=>exact wM
   .have xq:decide (qi x.hash h<0)=false:=(by rw[sh0];simp;omega);have HC:=hid Kn;clear Kn;go_wp2_with fail
    refine (Xe x h wr).mono ?_;rintro e w2 ⟨rfl,F2⟩;have Y0:=hid F2;clear F2;go_wp2_with fail
    go_roundw;case rel =>
     obtain⟨h1,h2,hF⟩:=Q9.o;refine⟨i,m,rfl,rfl,oM,oM,h1,fun k y hk hy=>?_,hF.trans Y0 nI⟩;rcases jL m k with aw|aw
     .have:=Wu HS HX hy aw;have:=HC.o;omega
     .obtain rfl:k=m:=by omega
      rw[HX] at hy;cases hy;exact HC
    case measure=>exact wM
  .obtain rfl:i=j:=by omega
   have hd:decide (i<i)=false:=by simp
   have hp:co es h=i:=yu0 HS (by rw[HN];exact hj) Q9.1 Q9.2.1;by_cases T4:i<n
   .have ic:decide (i<n)=true:=(by simp[T4]);obtain⟨x,hx⟩:∃ x,es[i]?=some x:=⟨_,gE (by rw[HN.o];omega)⟩
    have zP:(i:Int)<(n:Int):=oM;obtain⟨g,rfl,hg,u0,u1,u2,u3⟩:=pj (oN HE Q9.2.2) hx;have hb:hasB es h=decide (x.hash=h):=by
     rw[Bool.eq_iff_iff,uS HS,hp,hx];simp
    have HP:=hi2 hp hb;obtain⟨bb,cY⟩:=eX (decide (x.hash=h))
    have hce:(qi x.hash h == 0)=bb:=(by rw[<- cY,<- yO0];rfl);have yB:=hid cY;clear hx hp hb cY;go_wp2_with fail
    refine (Xe x h wr).mono ?_;rintro e w2 ⟨rfl,F2⟩;have Y0:=hid F2;clear F2;go_wp2_with fail
    go_ret2;exact⟨by rw[HP.1,HP.2,<- yB];rfl,Q9.2.2.trans Y0 nI⟩
   .have ic:decide (i<n)=false:=sO;have hb:hasB es h=false:=by
     rw[Bool.eq_false_iff];intro hb;obtain⟨x,hx,-⟩:=(uS HS.o).1 hb;rw[hp] at hx;have:=(gI.1 hx).1;rw[HN] at this;omega
    have HP:=hi2 hp hb;clear hp hb;go_wp2_with fail
    go_ret2;exact⟨by rw[HP.1,HP.2];rfl,Q9.2.2⟩
def WP (hE:Y3 w 0 v es)(hs:m9 es)(hl:es.length<=255)(d p:Int)(h:Nat) :
  cP 199 #[E9 d p v,iU h] w (rK0 es h w):=by
 obtain⟨w1,I0⟩:=eX (w.alloc (.cells #[iI d,iI p,v] 129))
 have b1:=fB I0
 have F1:=fA I0
 have HF:=hid F1;have c2:w1.cell? (aA w 2)=some v:=by simpa using G0 b1 2
 have HS:=hid (uf0 (oN hE F1) hs hl h);have HW:=hid I0;clear I0 b1 F1 hE hs hl;go_enter func199,ntmps199;go_upto_region 1 with fail
 rw[HW];go_wp2_with fail
 refine HS.mono ?_;rintro e w2 ⟨rfl,F2⟩;have Y0:=hid F2;clear F2;go_wp2_with fail
 go_ret2;exact⟨rfl,HF.trans Y0 nI⟩
def eP:(prog.info? 118).map (fun i=>(i.zero,i.size,i.bytes))=some (some (.agg #[iU 0,iI 0,iI 0,iI 0]),4,32):=by kernel_rfl
def cells3 {b:Nat}{x0 x1 x2:Value}{t:TypeId}(h:w.heap[b]?=some (.cells #[x0,x1,x2] t)) :
  w.cell? b=some x0/\w.cell? (aA b 1)=some x1/\w.cell? (aA b 2)=some x2/\(∀ o,w.frozen? ⟨b,o,none⟩=false)/\b<w:=
 ⟨by simpa using G0 h 0,by simpa using G0 h 1,by simpa using G0 h 2,fun o=>X2 h o,M0 h⟩
def LW (d p:Int)(va:Option Addr)(vn vc:Nat)(ua:Option Addr)(un uc:Nat)(w:w9):cP 195 #[E9 d p (sL va vn vc),sL ua un uc] w (bt (E9 d p (sL ua un uc)) w):=by
 obtain⟨w1,I0⟩:=eX ((w.alloc (.cells #[iI d,iI p,sL va vn vc] 129)).alloc (.cells #[iI 0,iI 0,sL none 0 0] 129))
 obtain⟨b0,b1,F1⟩:=n9 I0;obtain⟨x0,x1,x2,xz,xl⟩:=cells3 b0;obtain⟨y0,y1,y2,yz,yl⟩:=cells3 b1;have HF:=hid F1;have HW:=hid I0;have hs:w1.heap.size=w.heap.size+2:=by rw[<- I0];simp
 have HS:=hid hs;clear I0 b0 b1 F1 hs;go_enter func195,ntmps195;go_upto_region 1 with fail
 rw[HW];go_wp2_with fail
 refine bodyPost_ret (v:=E9 d p (sL ua un uc)) sR rfl ⟨rfl,?_⟩;exact ((HF.U2 oM _).U2 oM _).U2 oM _
def CW0 (es:List Bt)(w:w9)(e:Ending)(w':w9):Prop:=∃ v,e = rT v/\Y3 w' w.heap.size v es/\Fq w w'
def jb0 (hE:Y3 w 0 v es)(hl:es.length<=255):cP 200 #[v] w (CW0 es w):=by
 obtain⟨i0,A3,J1,M1,O1⟩:=info_parts eP;obtain⟨va,vc,rfl,-,-,Y4,-⟩:=A2 hE;have q127:∀ (w:w9) (a:Option Addr) (n c n' c':Nat),(binOp .eql 127 (sL a n c) (sL none n' c')).run prog w = .ok (bO a.isNone) w:=fun w a n c n' c'=>Lib.run_eql_slice_nil w _ _ a n c n' c' underlying127
 obtain⟨n,hn⟩:=eX es.length
 have pP:n<=255:=oM
 have HE:=hid hE;have HN:=hid hn;have Nu:=hid fun W (F:Fq w W)=>wT (oN hE F);cases va with
 | none =>
  have h0:n=0:=by rw[<- hn];exact (Y4 rfl).1
  have he:es=[]:=vH (by rw[hn];exact h0);have hc:vc=0:=(Y4 rfl).2;subst h0 hc;rw[hn];have HEm:=hid he;clear hE hn Y4 hl he;go_enter func200,ntmps200;go_wp2_with fail
  go_ret;exact⟨_,rfl,by rw[HEm];exact World.ownsRow_nil _ _ _ _,fR⟩
 | some ad =>
  rw[hn];clear hE hn Y4 hl;go_enter func200,ntmps200;go_wp2_with (at_builtin;refine mq rfl (.tmp 5) (.tmp 6) 127 rfl w.heap.size 118 i0 _ 4 32 underlying127 A3 J1 M1 O1 rfl dC _ _ _ rfl (IA _ _ (nR _) _ _ _ (by simp[go_sem])) (sL (some ad) n vc) n (es.flatMap Q1) rfl (by have:=Nu.o _ (fR.alloc (.cells #[] 118));rw[HN] at this;exact this) (by rw[jX,HN]) (by intro u hu;obtain⟨x,_,hx⟩:=ui.1 hu;simp[Q1] at hx;rcases hx with rfl|rfl|rfl|rfl <;> rfl) (by simp[maxLen];omega) oM sP ?_)
  intro v3 W3 K0 Q3 mT;try simp only[C7,o8] at K0
  have F3:Fq w W3:=((Fr.refl (fun b=>b=w.heap.size) _).alloc _).trans (Fr.of_grownBy Q3) (fun b _ h=>h) |>.mono fun b hb h=>oM
  have H3:=hi2 (show Y3 W3 w.heap.size v3 es by unfold Y3;rw[HN];exact K0) F3;clear K0 Q3 mT F3;go_wp2_with fail
  go_ret;exact⟨_,rfl,H3.1,H3.2⟩
def vQ:Option Bt->Value
 | none=>.agg #[iI 0,iI 0,iI 0]
 | some e=>.agg #[iI e.rg,iI e.at_,iI e.sz]
def qI (es:List Bt)(h:Nat):Option Bt:=if hasB es h=true then es[co es h]? else none
def Ca0 (es:List Bt)(h:Nat)(w:w9)(e:Ending)(w':w9):Prop:=e = rT (tU #[vQ (qI es h),bO (hasB es h)])/\Fq w w'
def find_ok (hE:Y3 w 0 v es)(hs:m9 es)(hl:es.length<=255)(d p:Int)(h:Nat) :
  cP 138 #[E9 d p v,iU h] w (Ca0 es h w):=by
 obtain⟨va,vc,rfl,-,-,-,-⟩:=A2 hE;obtain⟨n,hn⟩:=eX es.length
 obtain⟨w1,I0⟩:=eX ((w.alloc (.cells #[iI d,iI p,sL va n vc] 129)).alloc (.cells #[iI 0,iI 0,iI 0] 116))
 obtain⟨b0,b1,F1⟩:=n9 I0;have HB:=hid fun W (F:Fq w1 W)=>aI (cells3 (F.heap b0 id)) (cells3 (F.heap b1 id));have ei:=hid (WP (oN hE F1) hs hl d p h);have HE:=hid (oN hE F1);have E1:=hid F1;have HN:=hid hn;have HS:=hid hs;have hsz:w1.heap.size=w.heap.size+2:=by rw[<- I0];simp
 have eL:=hid hsz;obtain⟨⟨x0,x1,x2,xz,xl⟩,⟨y0,y1,y2,yz,yl⟩⟩:=HB.o _ fR;have HW:=hid I0;rw[hn] at ei ⊢;clear I0 b0 b1 F1 hE hs hl hn hsz;go_enter func138,ntmps138;go_upto_region 1 with fail
 rw[HW];go_wp2_with fail
 refine ei.mono ?_;rintro e w2 ⟨rfl,F2⟩;have Y0:=hid F2;clear F2 x0 x1 x2 xz xl y0 y1 y2 yz yl;obtain⟨⟨x0,x1,x2,xz,xl⟩,⟨y0,y1,y2,yz,yl⟩⟩:=HB.o _ Y0.o;cases hb:hasB es h with
 | false =>
  have HH:=hid hb;clear hb;go_wp2_with fail
  refine bodyPost_ret (v:=tU #[.agg #[iI 0,iI 0,iI 0],bO false]) sR rfl ⟨?_,?_⟩
  .unfold qI;rw[HH];rfl
  .exact ((((E1.trans Y0 nI)).U2 oM _).U2 oM _).U2 oM _
 | true =>
  obtain⟨x,hx,hxh⟩:=(uS HS.o).1 hb;obtain⟨g,rfl,hg,u0,u1,u2,u3⟩:=pj (oN HE Y0.o) hx;have X9:co es h<n:=by rw[<- HN];exact (gI.1 hx).1
  obtain⟨q,hq⟩:=eX (co es h)
  rw[hq] at X9 u0 u1 u2 u3;have zY:(q:Int)<(n:Int):=oM
  have HX:=hi2 hb (aI hx hq);rw[hq];clear hb hx hxh hq;go_wp2_with fail
  refine bodyPost_ret (v:=tU #[.agg #[iI x.rg,iI x.at_,iI x.sz],bO true]) sR rfl ⟨?_,?_⟩
  .unfold qI;rw[HX.1,if_pos rfl,HX.2.1];rfl
  .exact ((((E1.trans Y0 nI)).U2 oM _).U2 oM _).U2 oM _
