/- A pack of texts. Conditions: those that each names. -/
import Derived.Test.YtgdhaaokolfdoaaGreatDoorNAQ
import Derived.Lib.SmallJoins
set_option maxHeartbeats 16000000
set_option maxRecDepth 100000
set_option linter.all false
namespace Go.Proofs.YtgdhaaokolfdoaaGreatDoor
open Tryz
section
open Go.RowKit Go.Sg CP SF
def DI (b0:Nat)(f:Bt->Bool)(es:List Bt)(w0:w9)(v1 v2:Value)(w:w9):Prop:=
 (Y3 w b0 v1 (es.filter f)/\Y3 w b0 v2 (es.filter fun x=>!f x))/\(∀ g,v1.ownBlock=some g->v2.ownBlock≠some g)/\Fq w0 w
def YO (f:Bt->Bool)(es:List Bt)(w:w9)(e:Ending)(w':w9):Prop:=∃ v1 v2,e = rT (tU #[v1,v2])/\DI w.heap.size f es w v1 v2 w'
variable {w:w9}{b e n size:Nat}{v:Value}{xs:List Value}
def D8 {x0 x1 x2 x3:Value}{t:TypeId}(h:w.heap[b]?=some (.cells #[x0,x1,x2,x3] t)) :
  w.cell? b=some x0/\w.cell? (aA b 1)=some x1/\w.cell? (aA b 2)=some x2/\w.cell? (aA b 3)=some x3/\(∀ o,w.frozen? ⟨b,o,none⟩=false)/\b<w:=
 ⟨by simpa using G0 h 0,by simpa using G0 h 1,by simpa using G0 h 2,by simpa using G0 h 3,fun o=>X2 h o,M0 h⟩
def bK {g:Nat}(h:w.ownsRow b e size v n xs)(hv:v.ownBlock=some g):b<=g/\g<w:=by
 obtain⟨_,⟨h0,_⟩|⟨g',cap',cur',h1,hb,I1,_⟩⟩:=h
 .rw[h0] at hv;cases hv
 .rw[h1] at hv;have e':g'=g:=Option.some.inj hv;subst e';exact⟨hb,M0 I1⟩
def bi {S:Nat->Prop}{w':w9}{base:Nat}(h:w.ownsRow base e size v n xs)(F:Fr S w w')(hS:∀ g,v.ownBlock=some g->¬ S g):w'.ownsRow base e size v n xs:=by
 obtain⟨hl,h0|⟨g,cap,cur,hv,hb,hg,r⟩⟩:=h
 .exact⟨hl,.inl h0⟩
 .exact⟨hl,.inr ⟨g,cap,cur,hv,hb,F.heap hg (hS g (by rw[hv];rfl)),r⟩⟩
def Ox {b0:Nat}{w0 w1:w9}{v1 v2 v3:Value}{l1 l2:List Bt}(h1:Y3 w b0 v1 l1)(h2:Y3 w b0 v2 l2)(hd:∀ g,v1.ownBlock=some g->v2.ownBlock≠some g)(F:Fq w0 w)(hb:w0<=b0)(o:Obj)
  (hg:(w.alloc o).grownBy w1 v1.ownBlock) (G4:v3.ownBlock=v1.ownBlock\/v3.ownBlock=some (w.alloc o).heap.size):Y3 w1 b0 v2 l2/\(∀ g,v3.ownBlock=some g->v2.ownBlock≠some g)/\Fq w0 w1:=by
 have F1:Fr (fun b=>v1.ownBlock=some b) (w.alloc o) w1:=⟨hg.os,hg.tape,hg.output,hg.size,fun b hb hn=>hg.block b hb fun e=>hn e.symm⟩;have FA:Fq w (w.alloc o):=fR.alloc _;refine⟨bi (oN h2 FA) F1 fun g e2 e1=>hd g e1 e2,fun g Q3 db=>?_,(F.trans FA nI).trans F1 fun b P4 hs=>?_⟩
 .rcases G4 with G4|G4
  .exact hd g (by rw[<- G4];exact Q3) db
  .rw[Q3] at G4;have e:=Option.some.inj G4;have:=(bK h2 db).2;simp at e;omega
 .have:=(bK h1 hs).1;omega
variable {es:List Bt}
def md0 (hE:Y3 w 0 v es)(hl:es.length<=255)(cap:Addr)(f:Bt->Bool)(hf:∀ (x:Bt),x ∈ es->∀ (W:w9),Fq w W->cP 194 #[E8 x,pO (some cap)] W (bt (bO (f x)) W)) :
  cP 193 #[v,.func (.func 194) #[] #[pO (some cap)]] w (YO f es w):=by
 obtain⟨i0,A3,J1,M1,O1⟩:=info_parts eP;obtain⟨va,vc,rfl,-,-,-,-⟩:=A2 hE;obtain⟨n,hn⟩:=eX es.length
 have pP:n<=255:=oM
 have HE:=hid hE;have HN:=hid hn;have HC:=hid hf;rw[hn];clear hE hn hl hf;go_enter func193,ntmps193;go_wp2_with fail
 go_loopw [4,5,10] (fun v1 v2 iv wr=>∃ k:Nat,k<=n/\iv = iI k/\DI w.heap.size f (es.take k) w v1 v2 wr) fun _ _ iv _=>n-(intOf iv).toNat
 case atStart=>exact⟨0,C3 _,rfl,⟨World.ownsRow_nil _ _ _ _,World.ownsRow_nil _ _ _ _⟩,(fun g h=>by cases h),fR⟩
 case round =>
  obtain⟨k,hk,rfl,hP⟩:=hrel;have HP:=hid hP;by_cases hlt:k<n
  .have hd:decide (k<n)=true:=by simp[hlt]
   have cF:(k:Int)<(n:Int):=oM
   obtain⟨x,hx⟩:∃ x,es[k]?=some x:=⟨_,gE (by rw[HN.o];exact hlt)⟩
   obtain⟨g,rfl,hg,u0,u1,u2,u3⟩:=pj (oN HE hP.2.2) hx;obtain⟨W,hW⟩:=eX (wr.alloc (.cells #[iU x.hash,iI x.rg,iI x.at_,iI x.sz] 118))
   have bW:=fB hW
   have fU:=hid (show Fq wr W by rw[<- hW];exact fR.alloc _);have HX:=hid hx;have HW:=hid hW;have nu:=hid bW;have yE:=hid (HC.o x (gM hx) W (hP.2.2.trans fU nI));clear hx hW bW hP;go_upto_region 4 with fail
   rw[HW];obtain⟨t0,t1,t2,t3,tz,tl⟩:=D8 nu.o;clear u0 u1 u2 u3;go_wp2_with fail
   refine yE.mono ?_;rintro e W2 ⟨rfl,F2⟩;obtain⟨⟨h1,h2⟩,vj,ar⟩:=HP.o;have E7:Fq wr W2:=fU.trans F2 nI;have qU:=oN h1 E7;have eU:=oN h2 E7;obtain⟨a1,c1,rfl,-,-,-,-⟩:=A2 qU;obtain⟨a2,c2,rfl,-,-,-,-⟩:=A2 eU;obtain⟨t0,t1,t2,t3,tz,tl⟩:=D8 (F2.heap nu id);have tB:((es.take k).filter f).length<=255:=nT (mY _ _) (by rw[lT];omega);have tC:((es.take k).filter fun x=>!f x).length<=255:=nT (mY _ _) (by rw[lT];omega);have d7:w<=(W2:Nat):=nT ar.size E7.size;have Z3:es.take (k+1)=es.take k++[x]:=by rw[ea,HX];rfl
   have HT:=hid Z3;have Q9:=hi2 qU (aI eU (aI vj (ar.trans E7 nI)));have cO:=hid qU;have jp:=hid eU;have GN:=hid tB;have wj:=hid tC;clear h1 h2 qU eU vj ar F2 E7 Z3 tB tC;cases hfx:f x with
   | true =>
    have bE:=hid hfx;clear hfx;go_wp2_with (at_builtin;refine wpList_append_own_at _ rfl (.tmp 17) (.tmp 19) 127 rfl w.heap.size 118 i0 _ 4 32 underlying127 A3 J1 M1 O1 rfl dC _ _ _ rfl (cO.alloc _) ⟨W2,0,none⟩ 1 1 (Q1 x) rfl rfl (World.news_of_block (cs:=#[iU x.hash,iI x.rg,iI x.at_,iI x.sz]) (t:=118) (fr:=(0,0)) (han _ _)) (by simp[Value.oneCell']) (by have:=GN.o;simp only[maxLen];omega) (by have:=GN.o;omega) sO ?_)
    intro v3 W3 K0 Q3 N9 aT;have hst:=Ox (v3:=v3) Q9.1 Q9.2.1 Q9.2.2.1 Q9.2.2.2 (nR _) _ Q3 (by simpa using aT);have HQ:=hid (show DI w.heap.size f (es.take (k+1)) w v3 (.slice a2 ((es.take k).filter fun x=>!f x).length c2) W3 by
     have e1:(es.take (k+1)).filter f=(es.take k).filter f++[x]:=(by rw[HT,qe];simp[bE.o]);have e2:(es.take (k+1)).filter (fun x=>!f x)=(es.take k).filter (fun x=>!f x):=(by rw[HT,qe];simp[bE.o]);refine⟨⟨?_,by rw[e2];exact hst.1⟩,hst.2.1,hst.2.2⟩;unfold Y3;rw[e1,lA,dY];simpa using K0)
    clear hst K0 Q3 N9 aT;go_wp2_with fail
    go_roundw;case rel=>exact⟨k+1,hlt,by go_num,HQ.o⟩
    case measure=>exact wM
   | false =>
    have bE:=hid hfx;clear hfx;go_wp2_with (at_builtin;refine wpList_append_own_at _ rfl (.tmp 21) (.tmp 23) 127 rfl w.heap.size 118 i0 _ 4 32 underlying127 A3 J1 M1 O1 rfl dC _ _ _ rfl (jp.alloc _) ⟨W2,0,none⟩ 1 1 (Q1 x) rfl rfl (World.news_of_block (cs:=#[iU x.hash,iI x.rg,iI x.at_,iI x.sz]) (t:=118) (fr:=(0,0)) (han _ _)) (by simp[Value.oneCell']) (by have:=wj.o;simp only[maxLen];omega) (by have:=wj.o;omega) sO ?_)
    intro v3 W3 K0 Q3 N9 aT;have hst:=Ox (v3:=v3) Q9.2.1 Q9.1 (fun g e2 e1=>Q9.2.2.1 g e1 e2) Q9.2.2.2 (nR _) _ Q3 (by simpa using aT);have HQ:=hid (show DI w.heap.size f (es.take (k+1)) w (.slice a1 ((es.take k).filter f).length c1) v3 W3 by
     have e1:(es.take (k+1)).filter f=(es.take k).filter f:=(by rw[HT,qe];simp[bE.o]);have e2:(es.take (k+1)).filter (fun x=>!f x)=(es.take k).filter (fun x=>!f x)++[x]:=(by rw[HT,qe];simp[bE.o]);refine⟨⟨by rw[e1];exact hst.1,?_⟩,(fun g e1 e2=>hst.2.1 g e2 e1),hst.2.2⟩;unfold Y3;rw[e2,lA,dY];simpa using K0)
    clear hst K0 Q3 N9 aT;go_wp2_with fail
    go_roundw;case rel=>exact⟨k+1,hlt,by go_num,HQ.o⟩
    case measure=>exact wM
  .obtain rfl:k=n:=by omega
   have hd:decide (k<k)=false:=by simp
   go_wp2_with fail
   go_ret2;rw[tL (by rw[HN];exact nR _)] at HP;exact⟨_,_,rfl,HP.o⟩
def mc0 (hE:Y3 w 0 v es)(hl:es.length<=255)(cap:Addr)(f:Bt->Bool)(hf:∀ (x:Bt),x ∈ es->∀ (W:w9),Fq w W->cP 247 #[E8 x,pO (some cap)] W (bt (bO (f x)) W)) :
  cP 193 #[v,.func (.func 247) #[] #[pO (some cap)]] w (YO f es w):=by
 obtain⟨i0,A3,J1,M1,O1⟩:=info_parts eP;obtain⟨va,vc,rfl,-,-,-,-⟩:=A2 hE;obtain⟨n,hn⟩:=eX es.length
 have pP:n<=255:=oM
 have HE:=hid hE;have HN:=hid hn;have HC:=hid hf;rw[hn];clear hE hn hl hf;go_enter func193,ntmps193;go_wp2_with fail
 go_loopw [4,5,10] (fun v1 v2 iv wr=>∃ k:Nat,k<=n/\iv = iI k/\DI w.heap.size f (es.take k) w v1 v2 wr) fun _ _ iv _=>n-(intOf iv).toNat
 case atStart=>exact⟨0,C3 _,rfl,⟨World.ownsRow_nil _ _ _ _,World.ownsRow_nil _ _ _ _⟩,(fun g h=>by cases h),fR⟩
 case round =>
  obtain⟨k,hk,rfl,hP⟩:=hrel;have HP:=hid hP;by_cases hlt:k<n
  .have hd:decide (k<n)=true:=by simp[hlt]
   have cF:(k:Int)<(n:Int):=oM
   obtain⟨x,hx⟩:∃ x,es[k]?=some x:=⟨_,gE (by rw[HN.o];exact hlt)⟩
   obtain⟨g,rfl,hg,u0,u1,u2,u3⟩:=pj (oN HE hP.2.2) hx;obtain⟨W,hW⟩:=eX (wr.alloc (.cells #[iU x.hash,iI x.rg,iI x.at_,iI x.sz] 118))
   have bW:=fB hW
   have fU:=hid (show Fq wr W by rw[<- hW];exact fR.alloc _);have HX:=hid hx;have HW:=hid hW;have nu:=hid bW;have yE:=hid (HC.o x (gM hx) W (hP.2.2.trans fU nI));clear hx hW bW hP;go_upto_region 4 with fail
   rw[HW];obtain⟨t0,t1,t2,t3,tz,tl⟩:=D8 nu.o;clear u0 u1 u2 u3;go_wp2_with fail
   refine yE.mono ?_;rintro e W2 ⟨rfl,F2⟩;obtain⟨⟨h1,h2⟩,vj,ar⟩:=HP.o;have E7:Fq wr W2:=fU.trans F2 nI;have qU:=oN h1 E7;have eU:=oN h2 E7;obtain⟨a1,c1,rfl,-,-,-,-⟩:=A2 qU;obtain⟨a2,c2,rfl,-,-,-,-⟩:=A2 eU;obtain⟨t0,t1,t2,t3,tz,tl⟩:=D8 (F2.heap nu id);have tB:((es.take k).filter f).length<=255:=nT (mY _ _) (by rw[lT];omega);have tC:((es.take k).filter fun x=>!f x).length<=255:=nT (mY _ _) (by rw[lT];omega);have d7:w<=(W2:Nat):=nT ar.size E7.size;have Z3:es.take (k+1)=es.take k++[x]:=by rw[ea,HX];rfl
   have HT:=hid Z3;have Q9:=hi2 qU (aI eU (aI vj (ar.trans E7 nI)));have cO:=hid qU;have jp:=hid eU;have GN:=hid tB;have wj:=hid tC;clear h1 h2 qU eU vj ar F2 E7 Z3 tB tC;cases hfx:f x with
   | true =>
    have bE:=hid hfx;clear hfx;go_wp2_with (at_builtin;refine wpList_append_own_at _ rfl (.tmp 17) (.tmp 19) 127 rfl w.heap.size 118 i0 _ 4 32 underlying127 A3 J1 M1 O1 rfl dC _ _ _ rfl (cO.alloc _) ⟨W2,0,none⟩ 1 1 (Q1 x) rfl rfl (World.news_of_block (cs:=#[iU x.hash,iI x.rg,iI x.at_,iI x.sz]) (t:=118) (fr:=(0,0)) (han _ _)) (by simp[Value.oneCell']) (by have:=GN.o;simp only[maxLen];omega) (by have:=GN.o;omega) sO ?_)
    intro v3 W3 K0 Q3 N9 aT;have hst:=Ox (v3:=v3) Q9.1 Q9.2.1 Q9.2.2.1 Q9.2.2.2 (nR _) _ Q3 (by simpa using aT);have HQ:=hid (show DI w.heap.size f (es.take (k+1)) w v3 (.slice a2 ((es.take k).filter fun x=>!f x).length c2) W3 by
     have e1:(es.take (k+1)).filter f=(es.take k).filter f++[x]:=(by rw[HT,qe];simp[bE.o]);have e2:(es.take (k+1)).filter (fun x=>!f x)=(es.take k).filter (fun x=>!f x):=(by rw[HT,qe];simp[bE.o]);refine⟨⟨?_,by rw[e2];exact hst.1⟩,hst.2.1,hst.2.2⟩;unfold Y3;rw[e1,lA,dY];simpa using K0)
    clear hst K0 Q3 N9 aT;go_wp2_with fail
    go_roundw;case rel=>exact⟨k+1,hlt,by go_num,HQ.o⟩
    case measure=>exact wM
   | false =>
    have bE:=hid hfx;clear hfx;go_wp2_with (at_builtin;refine wpList_append_own_at _ rfl (.tmp 21) (.tmp 23) 127 rfl w.heap.size 118 i0 _ 4 32 underlying127 A3 J1 M1 O1 rfl dC _ _ _ rfl (jp.alloc _) ⟨W2,0,none⟩ 1 1 (Q1 x) rfl rfl (World.news_of_block (cs:=#[iU x.hash,iI x.rg,iI x.at_,iI x.sz]) (t:=118) (fr:=(0,0)) (han _ _)) (by simp[Value.oneCell']) (by have:=wj.o;simp only[maxLen];omega) (by have:=wj.o;omega) sO ?_)
    intro v3 W3 K0 Q3 N9 aT;have hst:=Ox (v3:=v3) Q9.2.1 Q9.1 (fun g e2 e1=>Q9.2.2.1 g e1 e2) Q9.2.2.2 (nR _) _ Q3 (by simpa using aT);have HQ:=hid (show DI w.heap.size f (es.take (k+1)) w (.slice a1 ((es.take k).filter f).length c1) v3 W3 by
     have e1:(es.take (k+1)).filter f=(es.take k).filter f:=(by rw[HT,qe];simp[bE.o]);have e2:(es.take (k+1)).filter (fun x=>!f x)=(es.take k).filter (fun x=>!f x)++[x]:=(by rw[HT,qe];simp[bE.o]);refine⟨⟨by rw[e1];exact hst.1,?_⟩,(fun g e1 e2=>hst.2.1 g e2 e1),hst.2.2⟩;unfold Y3;rw[e2,lA,dY];simpa using K0)
    clear hst K0 Q3 N9 aT;go_wp2_with fail
    go_roundw;case rel=>exact⟨k+1,hlt,by go_num,HQ.o⟩
    case measure=>exact wM
  .obtain rfl:k=n:=by omega
   have hd:decide (k<k)=false:=by simp
   go_wp2_with fail
   go_ret2;rw[tL (by rw[HN];exact nR _)] at HP;exact⟨_,_,rfl,HP.o⟩
end
section
open Go.RowKit Go.Sg Go.Sg.Bits Go.Sg.r4 CP
namespace SF
end SF
end
section
open Go.RowKit Go.Sg Go.Sg.Bits Go.Sg.r4 CP SF
structure Like (y y':Cs):Prop where
 plan:y'.plan=y.plan
 first:y'.first=y.first
 pages:y'.pages=y.pages
 room:y'.room=y.room
 places:y'.places=y.places
 C0:y'.C0=y.C0
 size:y'.size=y.size
def Like.refl (y:Cs):Like y y:=⟨rfl,rfl,rfl,rfl,rfl,rfl,rfl⟩
variable {y:Cs}{w w':w9}{N:Nat}
def Like.trans {y1 y2:Cs}(h:Like y y1)(k:Like y1 y2):Like y y2:=
 ⟨k.plan.trans h.plan,k.first.trans h.first,k.pages.trans h.pages,k.room.trans h.room,k.places.trans h.places,k.C0.trans h.C0,k.size.trans h.size⟩
variable {B:P0}
def _root_.Go.Sg.D0.trans' {S:Nat->Prop}{w1 w2:w9}(h:D0 B w w1)(k:Fr S w1 w2)(hs:∀ b,b<w.heap.size->¬ S b):D0 B w w2:=Fr.trans h k fun b hb P4=>absurd P4 (hs b hb)
variable {P:J2}
def C5.mono {N':Nat}(h:C5 w B y P N)(hN:N<=N'):C5 w B y P N':=by
 obtain⟨D,h1,h2,h3⟩:=h.ex;exact⟨D,h1,h2.mono hN,h3⟩
def C5.M3 (h:C5 w B y P N){k:Nat}(F:Fr (fun b=>b=k) w w'){c:Array Value}{t:TypeId}(hk:w.heap[k]?=some (.cells c t))(ht:t ∉ 5 :: aR):C5 w' B y P N:=by
 obtain⟨D,h1,h2,h3⟩:=h.ex;have qU:=h1;obtain⟨lv,hd,_⟩:=h1.dc;obtain⟨l,ck,hf,_⟩:=h1.fast;obtain⟨l',js,hq,_⟩:=h1.past;refine⟨D,qU.fr F (fun e=>?_) (fun e=>?_) (fun e=>?_) fun g c' t' om hg e=>?_,h2,h3⟩
 .rw[e,hk] at hd;cases hd;exact ht dC
 .rw[e,hk] at hf;cases hf
 .rw[e,hk] at hq;cases hq
 .rw[e,hk] at hg;cases hg;rcases om with rfl|rfl|rfl <;> exact ht dC
def C5.J0 (h:C5 w B y P N)(F:Fq w w'):C5 w' B y P N:=by
 obtain⟨D,h1,h2,h3⟩:=h.ex;exact⟨D,h1.fr F id id id fun _ _ _ _ _ h=>h,h2,h3⟩
end
end Go.Proofs.YtgdhaaokolfdoaaGreatDoor
namespace Go.Sg
def nA0 (n:Nat):∀ L:List Nat,L.length<n->∃ j,j<n/\j ∉ L:=by
 induction n with
 | zero=>intro L h;omega
 | succ n ih =>
  intro L h;by_cases hn:n ∈ L
  .have hlt:(L.filter fun k=>k != n).length<L.length:=List.length_filter_lt_length_iff_exists.2 ⟨n,hn,by simp⟩;obtain⟨j,hj,hm⟩:=ih (L.filter fun k=>k != n) oM;refine⟨j,oM,fun hL=>hm ?_⟩;simp only[rn,hL,true_and,bne_iff_ne,ne_eq];omega
  .exact⟨n,oM,hn⟩
def sw (n m k:Nat):Nat:=if k=n then m else k
variable {l:List Nat}{m n:Nat}
def qW0 (h:l.Nodup)(hn:n ∈ l)(p:Nat->Bool)(hp:p n=true):(l.filter fun k=>p k && k != n).length+1=(l.filter p).length:=by
 have h1:l.filter (fun k=>p k && k != n)=(l.filter p).erase n:=by
  rw[List.Nodup.erase_eq_filter (h.filter p),List.filter_filter];congr 1;funext k;rw[Bool.and_comm]
 have hm:n ∈ l.filter p:=rn.2 ⟨hn,hp⟩;rw[h1,List.length_erase_of_mem hm];have:=List.length_pos_of_mem hm;omega
def wj0 (h:l.Nodup)(hm:m=n\/m ∉ l):(l.map (sw n m)).Nodup:=by
 rw[List.Nodup,An];refine List.Pairwise.imp_of_mem ?_ h;intro a b ha hb Cm;simp only[sw];rcases hm with rfl|hm
 .split <;> split <;> omega
 .split <;> split
  .omega
  .rintro rfl;exact hm hb
  .rintro rfl;exact hm ha
  .exact Cm
def Yy {x:Nat}:x ∈ l.map (sw n m)↔(x=m/\n ∈ l)\/(x ∈ l/\x≠n):=by
 simp only[N4,sw];constructor
 .rintro⟨a,ha,rfl⟩;split
  .rename_i e;subst e;exact .inl ⟨rfl,ha⟩
  .rename_i e;exact .inr ⟨ha,e⟩
 .rintro (⟨rfl,h⟩|⟨h,e⟩)
  .exact⟨n,h,by simp⟩
  .exact⟨x,h,by simp[e]⟩
end Go.Sg
namespace Go.Proofs.YtgdhaaokolfdoaaGreatDoor
open Go.RowKit Go.Sg Go.Sg.Bits Go.Sg.r4 CP SF Tryz
structure Live (y:Cs)(own:List Nat)(M:Nat):Prop where
 nd:own.Nodup
 lt:∀ k ∈ own,k<y.pages
 tk:∀ k ∈ own,y.taken k=true/\y.dying k=false/\y.dead k=false
 all:∀ k,k<y.pages->y.taken k=true->k ∈ own\/y.dying k=true\/y.dead k=true
 dy:∃ L:List Nat,(∀ k:Nat,y.dying k=true->k ∈ L)/\L.length+(own.filter fun k:Nat=>!y.fresh k).length<=M
 de:∃ L:List Nat,(∀ k:Nat,y.dead k=true->k ∈ L)/\L.length<=M
variable {y:Cs}{own:List Nat}{M N lc ll m n:Nat}{bs:List Int}{w:w9}{a:Bool}{la:Option Addr}
def Live.perm {own':List Nat}(h:Live y own M)(p:own.Perm own'):Live y own' M:=by
 obtain⟨L,h1,h2⟩:=h.dy;exact⟨p.nodup_iff.1 h.nd,fun k hk=>h.lt k (p.mem_iff.2 hk),fun k hk=>h.tk k (p.mem_iff.2 hk),fun k hk ht=>(h.all k hk ht).imp (fun h=>p.mem_iff.1 h) id,⟨L,h1,by rw[<- (p.filter _).length_eq];exact h2⟩,h.de⟩
def Live.free (h:Live y own M)(hn:own.length+2*M<y.pages):∃ j,j<y.pages/\y.taken j=false:=by
 obtain⟨L,h1,h2⟩:=h.dy;obtain⟨L',h3,h4⟩:=h.de;obtain⟨j,hj,hm⟩:=nA0 y.pages (own++L++L') sO;refine⟨j,hj,?_⟩;cases ht:y.taken j with
 | false=>rfl
 | true =>
  exfalso;apply hm;rcases h.all j hj ht with h|h|h
  .simp[h]
  .simp[h1 j h]
  .simp[h3 j h]
def Cs.put (y:Cs)(n m:Nat)(bs:List Int):Cs:=if y.fresh n=true then { y with cont:=dt y.cont n (some (y.gen,bs)) } else y.moved n m bs
def Qb {f:Int->Bool}{k:Nat}{b:Bool}:aN f n b k=if k=n then b else f k:=by
 simp only[aN];by_cases h:k=n
 .rw[if_pos h,if_pos oM]
 .rw[if_neg h,if_neg oM]
def Live.new (h:Live y own M)(ap:Apart y.taken y.fresh y.dying y.dead)(hn:dF y.taken y.pages y.hand n):Live (y.new n bs) (own++[n]) M:=by
 have hno:n ∉ own:=fun hm=>by have:=(h.tk n hm).1;rw[hn.2.1] at this;cases this
 have ht:∀ k,y.taken k=true->(y.new n bs).taken k=true:=fun k hk=>by
  show upd y.taken n true k=true;simp only[upd];split
  .rfl
  .exact hk
 have vk:y.dying n=false:=by
  cases e:y.dying n with
  | false=>rfl
  | true=>have:=ap.yt n e;rw[hn.2.1] at this;cases this
 have vi:y.dead n=false:=by
  cases e:y.dead n with
  | false=>rfl
  | true=>have:=ap.et n e;rw[hn.2.1] at this;cases this
 obtain⟨L,h1,h2⟩:=h.dy;refine⟨?_,fun k hk=>?_,fun k hk=>?_,fun k hk iY=>?_,⟨L,h1,?_⟩,h.de⟩
 .rw[yh];exact⟨h.nd,by simp,fun a ha b hb=>by simp at hb;subst hb;rintro rfl;exact hno ha⟩
 .rcases X5.1 hk with hk|hk
  .exact h.lt k hk
  .simp at hk;subst hk;exact hn.1
 .rcases X5.1 hk with hk|hk
  .exact⟨ht k (h.tk k hk).1,(h.tk k hk).2⟩
  .simp at hk;subst hk;exact⟨by show upd y.taken k true k=true;simp[upd],vk,vi⟩
 .by_cases e:k=n
  .subst e;simp
  .have Kb:upd y.taken n true k=true:=iY;simp only[upd,if_neg e] at Kb;exact (h.all k hk Kb).imp (fun h=>pY _ h) id
 .have e:(own++[n]).filter (fun k:Nat=>!(y.new n bs).fresh k)=own.filter (fun k:Nat=>!y.fresh k):=by
   rw[qe];have e1:[n].filter (fun k:Nat=>!(y.new n bs).fresh k)=[]:=by
    simp[Cs.new,aN]
   rw[e1,vL];refine Qo fun k hk=>?_
   show (!(aN y.fresh n true k))=_;rw[Qb,if_neg (by rintro rfl;exact hno hk)]
  rw[e];exact h2
def Live.put (h:Live y own M)(ap:Apart y.taken y.fresh y.dying y.dead)(hn:n ∈ own)(hm:y.fresh n=true/\m=n\/y.fresh n=false/\dF y.taken y.pages y.hand m):Live (y.put n m bs) (own.map (sw n m)) M:=by
 rcases hm with⟨hf,rfl⟩|⟨hf,ht⟩
 .rw[Cs.put,if_pos hf];have e:own.map (sw m m)=own:=by
   have:sw m m=id:=by funext k;simp only[sw,id];split <;> omega
   rw[this,List.map_id]
  rw[e];exact⟨h.nd,h.lt,h.tk,h.all,h.dy,h.de⟩
 .rw[Cs.put,if_neg (by rw[hf];decide)];have hno:m ∉ own:=fun hm=>by have:=(h.tk m hm).1;rw[ht.2.1] at this;cases this
  have zP:m≠n:=by rintro rfl;exact hno hn
  have vk:y.dying m=false:=by
   cases e:y.dying m with
   | false=>rfl
   | true=>have:=ap.yt m e;rw[ht.2.1] at this;cases this
  have vi:y.dead m=false:=by
   cases e:y.dead m with
   | false=>rfl
   | true=>have:=ap.et m e;rw[ht.2.1] at this;cases this
  have Z3:∀ k,(y.moved n m bs).taken k=if k=m then true else y.taken k:=fun k=>rfl
  have PN:∀ k:Nat,(y.moved n m bs).dying k=if k=n then true else y.dying k:=fun k=>by
   show aN y.dying n true k=_;exact Qb
  have hfk:∀ k:Nat,(y.moved n m bs).fresh k=if k=m then true else y.fresh k:=fun k=>by
   show aN y.fresh m true k=_;exact Qb
  have hdk:∀ k:Nat,(y.moved n m bs).dead k=y.dead k:=fun k=>rfl
  obtain⟨L,h1,h2⟩:=h.dy;refine⟨wj0 h.nd (.inr hno),fun k hk=>?_,fun k hk=>?_,fun k hk iY=>?_,⟨n :: L,fun k hk=>?_,?_⟩,h.de⟩
  .rcases Yy.1 hk with⟨rfl,_⟩|⟨hk,_⟩
   .exact ht.1
   .exact h.lt k hk
  .rcases Yy.1 hk with⟨rfl,_⟩|⟨hk,L8⟩
   .rw[Z3,PN,hdk,if_pos rfl,if_neg zP];exact⟨rfl,vk,vi⟩
   .have aw:¬ k=m:=fun e=>hno (by rw[<- e];assumption)
    rw[Z3,PN,hdk,if_neg L8,if_neg aw];exact h.tk k (by assumption)
  .rw[PN,hdk,Yy];by_cases e:k=m
   .exact .inl (.inl ⟨e,hn⟩)
   .rw[Z3,if_neg e] at iY;by_cases e2:k=n
    .rw[if_pos e2];exact .inr (.inl rfl)
    .rw[if_neg e2];exact (h.all k hk iY).imp (fun h=>.inr ⟨h,e2⟩) id
  .rw[PN] at hk;split at hk
   .rename_i e;subst e;simp
   .exact jH _ (h1 k hk)
  .have e:((own.map (sw n m)).filter fun k:Nat=>!(y.moved n m bs).fresh k).length+1=(own.filter fun k:Nat=>!y.fresh k).length:=by
    rw[List.filter_map,Z8,<- qW0 h.nd hn (fun k=>!y.fresh k) (by simp[hf])];congr 2
    refine Qo fun k hk=>?_
    show (!(y.moved n m bs).fresh (sw n m k:Nat))=_;rw[hfk];simp only[sw];by_cases e:k=n
    .subst e;simp
    .have aw:k≠m:=(by rintro rfl;exact hno hk);simp[e,aw]
   simp only[lC];omega
def Live.commit (h:Live y own M)(hl:own.length<=M):Live y.commit own M:=by
 obtain⟨L,h1,h2⟩:=h.dy;refine⟨h.nd,h.lt,fun k hk=>?_,fun k hk ht=>?_,⟨[],fun k hk=>(by cases hk),?_⟩,⟨L,h1,oM⟩⟩
 .obtain⟨a1,a2,a3⟩:=h.tk k hk;refine⟨?_,rfl,a2⟩;show (y.taken k && !y.dead k)=true;rw[a1,a3];rfl
 .have om:(y.taken k && !y.dead k)=true:=ht;rw[uh] at om;rcases h.all k hk om.1 with h|h|h
  .exact .inl h
  .exact .inr (.inr h)
  .rw[h] at om;cases om.2
 .have e:own.filter (fun k:Nat=>!y.commit.fresh k)=own:=Me.2 fun k _=>rfl
  rw[e];simpa using hl
def wQ0 (hm:y.fresh n=true/\m=n\/y.fresh n=false):(y.put n m bs).cont=dt y.cont m (some (y.gen,bs)):=by
 rcases hm with⟨hf,rfl⟩|hf
 .rw[Cs.put,if_pos hf]
 .rw[Cs.put,if_neg (by rw[hf];decide)];rfl
def EP (y:Cs)(n m:Nat)(bs:List Int):Like y (y.put n m bs)/\(y.put n m bs).gen=y.gen/\(y.put n m bs).dead=y.dead:=by
 rw[Cs.put];split
 .exact⟨⟨rfl,rfl,rfl,rfl,rfl,rfl,rfl⟩,rfl,rfl⟩
 .exact⟨⟨rfl,rfl,rfl,rfl,rfl,rfl,rfl⟩,rfl,rfl⟩
def WK (c:Cont)(k:Int)(v:Option (Nat × List Int)):dt c k v k=v:=by simp[dt]
def BJ {c:Cont}{k j:Int}{v:Option (Nat × List Int)}(h:j≠k):dt c k v j=c j:=by simp[dt,h]
variable {B:P0}{P:J2}
def C1.apart (h:C1 w B y P a N):Apart y.taken y.fresh y.dying y.dead:=by
 obtain⟨x,c,hS,rfl,hi⟩:=h.ex;exact hi.apart
def Bz0 (B:P0)(y:Cs)(P:J2)(a:Bool)(N:Nat)(n:Nat)(bs:List Int)(w:w9)(e:Ending)(w':w9):Prop:=
 D0 B w w'/\((∃ m,(y.fresh n=true/\m=n\/y.fresh n=false/\dF y.taken y.pages y.hand m)/\e = rT (tU #[.agg #[iI m,iI y.gen],iI 0])/\C1 w' B (y.put n m bs) P a (N+1)) \/
  (∃ p s,e = rT (tU #[.agg #[iI p,iI s],iI 4])/\a=true/\C5 w' B y P (N+1)))
def Au0 {P:D4}(h:C1 w B y P a N)(n:Nat)(st:Int)(T4:nx w B la ll lc bs)(O2:∀ b ∈ bs,0<=b/\b<256)(hl:ll<=y.room)
  (hp:n<y.pages) (ht:y.taken n=true) (hd:y.dead n=false) (hj:∃ j,j<y.pages/\y.taken j=false) (hN:N+1<=90000) :
  cP 26 #[B.ptr,.agg #[iI n,iI st],sL la ll lc] w (Bz0 B y P a N n bs w):=by
 cases hf:y.fresh n with
 | true =>
  refine (xn0 h n st T4 O2 hl hp ht hf hN).mono ?_;rintro e w' ⟨err,rfl,⟨rfl,hS⟩|⟨rfl,ha,hD⟩,F⟩
  .exact⟨F,.inl ⟨n,.inl ⟨hf,rfl⟩,rfl,by rw[Cs.put,if_pos hf];exact hS⟩⟩
  .exact⟨F,.inr ⟨_,_,rfl,ha,hD⟩⟩
 | false =>
  obtain⟨j,hj,P2⟩:=hj;refine (Cx0 h n st T4 O2 hl hp ht hf hd hj P2 hN).mono ?_;rintro e w' ⟨m,err,hm,rfl,⟨rfl,hS⟩|⟨rfl,ha,hD⟩,F⟩
  .exact⟨F,.inl ⟨m,.inr ⟨hf,hm⟩,rfl,by rw[Cs.put,if_neg (by rw[hf];decide)];exact hS⟩⟩
  .exact⟨F,.inr ⟨0,0,rfl,ha,hD⟩⟩
def DD0 (B:P0)(y:Cs)(P:J2)(a:Bool)(N:Nat)(bs:List Int)(w:w9)(e:Ending)(w':w9):Prop:=
 D0 B w w'/\((∃ m,dF y.taken y.pages y.hand m/\e = rT (tU #[.agg #[iI m,iI y.gen],iI 0])/\C1 w' B (y.new m bs) P a (N+1)) \/
  (∃ p s,e = rT (tU #[.agg #[iI p,iI s],iI 4])/\a=true/\C5 w' B y P (N+1)))
def Dm0 {P:D4}(h:C1 w B y P a N)(T4:nx w B la ll lc bs)(O2:∀ b ∈ bs,0<=b/\b<256)(hl:ll<=y.room)
  (hj:∃ j,j<y.pages/\y.taken j=false) (hN:N+1<=90000):cP 22 #[B.ptr,sL la ll lc] w (DD0 B y P a N bs w):=by
 obtain⟨j,hj,P2⟩:=hj;refine (new_c h T4 O2 hl hj P2 hN).mono ?_;rintro e w' ⟨m,err,hm,rfl,⟨rfl,hS⟩|⟨rfl,ha,hD⟩,F⟩
 .exact⟨F,.inl ⟨m,hm,rfl,hS⟩⟩
 .exact⟨F,.inr ⟨0,0,rfl,ha,hD⟩⟩
def CL0 (B:P0)(y:Cs)(P:J2)(a:Bool)(N:Nat)(load:List Int)(w:w9)(e:Ending)(w':w9):Prop:=
 D0 B w w'/\((∃ la lc,e = rT (tU #[sL la load.length lc,iI 0])/\T0 w' la load.length lc load/\C1 w' B y P a (N+1)) \/
  (e = rT (tU #[sL none 0 0,iI 4])/\a=true/\C5 w' B y P (N+1)))
def BQ0 (h:C1 w B y P a N)(p stamp:Nat){load:List Int}(hc:y.cont p=some (stamp,load))(hN:N+1<=90000) :
  cP 24 #[B.ptr,.agg #[iI p,iI stamp]] w (CL0 B y P a N load w):=by
 refine (BR0 h p stamp hc hN).mono ?_;rintro e w' ⟨err,⟨rfl,hS⟩|⟨rfl,ha,hD⟩,F,h1,-,h3⟩
 .obtain⟨la,lc,rfl,hb⟩:=h3 rfl rfl;exact⟨F,.inl ⟨la,lc,rfl,hb,hS⟩⟩
 .obtain rfl:=h1 dC;exact⟨F,.inr ⟨rfl,ha,hD⟩⟩
end Go.Proofs.YtgdhaaokolfdoaaGreatDoor
namespace Go.Sg
def Ea (x:Int × Int):List Int:=leB x.1.toNat 4++leB x.2.toNat 8
def P3 (l:List (Int × Int)):List Int:=l.flatMap Ea
def wJ0 (x:Int × Int):(Ea x).length=12:=by simp[Ea,e8]
def EE (l:List (Int × Int)):(P3 l).length=12*l.length:=by
 induction l with
 | nil=>rfl
 | cons x l ih=>simp only[P3,dj,lA,lC] at ih ⊢;rw[wJ0,ih];omega
def bh (x:Int × Int):Prop:=0<=x.1/\x.1<=2147483647/\0<=x.2/\x.2<9223372036854775808
structure vT (w:w9)(a:Option Addr)(l:List (Int × Int)):Prop where
 at_:∀ (i:Nat) (x:Int × Int),l[i]?=some x->∃ b off,a=some ⟨b,off,none⟩/\b<w.heap.size/\w.cell? (aA b (off+i*2))=some (iI x.1)/\w.cell? (aA b (off+i*2+1))=some (iI x.2)
variable {w w':w9}{a:Option Addr}{l:List (Int × Int)}
def vT.fr {S:Nat->Prop}(h:vT w a l)(F:Fr S w w')(hS:∀ b off,a=some ⟨b,off,none⟩->b<w.heap.size->l≠[]->¬ S b):vT w' a l:=
 ⟨fun i x hx=>by
  obtain⟨b,off,e,hb,h1,h2⟩:=h.at_ i x hx;have hn:l≠[]:=by rintro rfl;simp at hx
  exact⟨b,off,e,E4 hb F.size,(F.cell (p:=⟨b,off+i*2,none⟩) hb (hS b off e hb hn)).trans h1,(F.cell (p:=⟨b,off+i*2+1,none⟩) hb (hS b off e hb hn)).trans h2⟩⟩
def vT.J0 (h:vT w a l)(F:Fq w w'):vT w' a l:=h.fr F fun _ _ _ _ _ h=>h
end Go.Sg
namespace Go.Proofs.YtgdhaaokolfdoaaGreatDoor
open Tryz
section
open Go.RowKit Go.Sg CP SF
def YQ (l:List (Int × Int))(w:w9)(e:Ending)(w':w9):Prop:=∃ a c,e = rT (sL a (12*l.length) c)/\T0 w' a (12*l.length) c (P3 l)/\Fq w w'
def Dz0 (base r limit:Nat)(bs:List Int)(n k:Nat)(w:w9)(e:Ending)(w':w9):Prop:=e = rT (tU #[])/\bQ w' base r (bs++Sg.leB n k) limit/\Fr (wJ w base r) w w'
def AR0 (limit:Nat)(w:w9)(e:Ending)(w':w9):Prop:=e = rT (pO w)/\bQ w' w.heap.size w.heap.size [] limit/\Fq w w'
def CB0 (bs:List Int)(w:w9)(e:Ending)(w':w9):Prop:=∃ a c,e = rT (sL a bs.length c)/\(T0 w' a bs.length c bs/\bs.length<=c)/\Fq w w'
variable {w:w9}{base limit r:Nat}{bs:List Int}
def yl0 (h:bQ w base r bs limit)(Z0:base<=w)(n k:Nat)(kz:Int)(Ke:kz=k)(hk:k=1\/k=2\/k=4\/k=8)(hn:n<18446744073709551616)(hroom:bs.length+k<=limit) :
  cP 179 #[pO r,iU n,iI kz] w (Dz0 base r limit bs n k w):=by
 subst Ke;exact BC h Z0 n k hk hn hroom
def ze0 (limit:Nat)(z:Int)(hz:z=limit)(hl:limit<=65536)(w:w9):cP 178 #[iI z] w (AR0 limit w):=by
 subst hz;exact Tm limit hl w
def xo0 (h:bQ w base r bs limit):cP 180 #[pO r] w (CB0 bs w):=On h
def LP {a:Option Addr}{c n:Nat}{l:List (Int × Int)}(h:vT w a l)(hr:∀ x ∈ l,bh x)(hn:l.length=n)(ax:n<=64) :
  cP 119 #[sL a n c] w (YQ l w):=by
 have H:=hid h;have HR:=hi2 hr hn;have wm:=hid (ze0 (12*n) (12*(n:Int)) sP oM w);clear h hr hn;go_enter func119,ntmps119;go_wp2_with (go_at_call 178;refine wm.mono ?_)
 rintro e w1 ⟨rfl,hW,F1⟩;have R6:=hi2 hW F1;clear hW F1;go_wp2_with fail
 go_loopw [12] (fun i wr=>∃ k:Nat,k<=n/\i = iI k/\bQ wr w.heap.size w.heap.size (P3 (l.take k)) (12*n)/\Fq w wr) fun i _=>n-(intOf i).toNat
 case atStart=>exact⟨0,C3 _,rfl,R6.1,R6.2⟩
 case round =>
  obtain⟨k,hk,rfl,hW,F⟩:=hrel;have HW:=hi2 hW F;by_cases hlt:k<n
  .have hx:l[k]?=some (l[k]'(by rw[HR.2];exact hlt)):=gE _;generalize l[k]'(by rw[HR.2];exact hlt)=x at hx;have eC:=HR.1 x (gM hx);obtain⟨z1,z2⟩:=x;obtain⟨p,rfl⟩:=iZ eC.1;obtain⟨q,rfl⟩:=iZ eC.2.2.1;have fM:p<=2147483647:=by have:=eC.2.1;simp only at this;omega
   have mU:q<9223372036854775808:=by have:=eC.2.2.2;simp only at this;omega
   obtain⟨b,off,rfl,hb,h0,h1⟩:=(H.J0 F).at_ k _ hx;simp only at h0 h1;have hd:decide ((k:Int)<(n:Int))=true:=by simp;omega
   have Lo:IntKind.u64.wrap (p:Int)=(p:Int):=by simp[IntKind.wrap,IntKind.signed,IntKind.bits];omega
   have Lp:IntKind.u64.wrap (q:Int)=(q:Int):=by simp[IntKind.wrap,IntKind.signed,IntKind.bits];omega
   have N8:(P3 (l.take k)).length=12*k:=by rw[EE,lT,HR.2];omega
   have aJ:=hid (fun W (F:Fq wr W)=>yl0 (hW.fr F fun _ _ _ h=>h) (nT HW.2.size F.size) p 4 4 sP oM oM (by rw[N8];omega));have HX:=hi2 hx N8;have hsz:w.heap.size<wr.heap.size:=by obtain⟨⟨v,hr,_⟩,_⟩:=HW.1;exact M0 hr
   clear hx eC N8 hW F;go_upto_region 5 with fail
   obtain⟨W2,eV⟩:=eX (wr.alloc (.cells #[iI p,iI q] 35))
   rw[eV];have F2:=fA eV
   have j9:=fB eV
   have H2:=hi2 F2 j9;obtain⟨e0,e1,ez,el⟩:=cells2 j9;have HC:=hid (aJ.o W2 F2);clear h0 h1 F2 j9 eV aJ;go_wp2_with (go_at_call 179;refine HC.mono ?_)
   rintro e W3 ⟨rfl,S5,F3⟩;have j9:=F3.heap H2.2 (fun h=>by
    rcases h.2 with h|⟨c,h⟩
    .omega
    .rw[H2.2] at h;cases h)
   obtain⟨e0,e1,ez,el⟩:=cells2 j9;have gJ:Fq w W3:=((HW.2.trans H2.1 nI)).trans F3 (fun b hb h=>by have:=h.1;omega);have oJ:=hid (yl0 S5 gJ.size q 8 8 sP oM oM (by rw[lA,HX.2,e8];omega));have H3:=hid gJ;clear F3 S5 gJ j9 HC;go_wp2_with (go_at_call 179;refine oJ.mono ?_)
   rintro e W4 ⟨rfl,jA,F4⟩;have H4:=hi2 jA (H3.trans F4 fun b hb h=>by have:=h.1;omega);clear F4 jA;go_wp2_with fail
   go_roundw;case rel =>
    refine⟨k+1,hlt,by go_num,?_,H4.2⟩;have e1:P3 (l.take (k+1))=P3 (l.take k)++Sg.leB p 4++Sg.leB q 8:=by
     rw[ea,HX.1];simp[P3,Ea]
    rw[e1];exact H4.1
   case measure=>exact wM
  .obtain rfl:k=n:=by omega
   have hd:decide ((k:Int)<(k:Int))=false:=by simp
   have HB:=hid (xo0 hW);clear hW F;go_wp2_with (go_at_call 180;refine HB.mono ?_)
   rintro e W2 ⟨a2,c2,rfl,⟨L4,-⟩,F2⟩;have H2:=hi2 L4 F2;clear L4 F2;go_wp2_with fail
   refine bodyPost_ret (v:=.slice a2 (P3 (l.take k)).length c2) (by simp[results,go_sem]) rfl ?_;have e1:l.take k=l:=tL (by rw[HR.2];exact nR _);have hb:=H2.1;rw[e1,EE] at hb;rw[e1,EE];exact⟨a2,c2,rfl,hb,HW.2.trans H2.2 nI⟩
end
section
open Go.RowKit Go.Sg Go.Sg.Bits Go.Sg.r4 CP SF
