/- A pack of texts. Conditions: those that each names. -/
import Derived.Test.YtgdhaaokolfdoaaGreatDoorNAO
set_option maxHeartbeats 16000000
set_option maxRecDepth 100000
set_option linter.all false
namespace Go.Proofs.YtgdhaaokolfdoaaGreatDoor
open Go.RowKit Go.Sg Go.Sg.Bits Go.Sg.r4 Go.Shelf CP SF Tryz
attribute [local go_sem] Oper.semAt_some
def dr (x:T3)(L:List Int)(D:Dev):T3:={ x with mem:=cleaned x.mem L,dev:=D }
structure Gw (w0:w9)(B:P0)(x:T3)(c:Cont)(P:J2)(a:Bool)(N b0 bx br:Nat)(L:List Int)(k:Nat)(W:w9):Prop where
 b0:W.heap[b0]?=some (.cells #[B.ptr] 23)
 bx:W.heap[bx]?=some (.cells #[B.ptr] 23)
 br:W.heap[br]?=some (.cells #[iI 0] 24)
 ex:∃ D,X1 W B (dr x L D)/\Holds W (dr x L D) c P/\bj D P a (N+k)/\D.down=false/\D.C0=x.dev.C0/\D.size=x.dev.size
 fr:D0 B w0 W
structure Zx (w0:w9)(B:P0)(x:T3)(P:J2)(a:Bool)(N br:Nat)(k:Nat)(W:w9):Prop where
 br:W.heap[br]?=some (.cells #[iI 4] 24)
 ex:∃ D,Q4 W B.base B.d B.bf B.bq D/\bj D P a (N+k)/\D.down=true/\D.C0=x.dev.C0/\D.size=x.dev.size
 fr:D0 B w0 W
 arm:a=true
def zh {β:Type}{B0:Nat}{I:β->World->Prop}(h0:∀ s W W',I s W->Fq W W'->I s W')
  (h1:∀ s W W' k,I s W->Fr (fun b=>b=k) W W'->B0<=k->(∀ c t f,W.heap[k]?≠some (.cells c t f))->I s W'):OwnFrom B0 I:=by
 intro s W W' row hs hg hr;cases row with
 | none=>exact h0 s W W' hs ⟨hg.os,hg.tape,hg.output,hg.size,fun b hb _=>hg.block b hb sP⟩
 | some k =>
  obtain⟨hk,o,ho,hc⟩:=hr k rfl;refine h1 s W W' k hs ⟨hg.os,hg.tape,hg.output,hg.size,fun b hb hn=>hg.block b hb fun e=>hn (by cases e;rfl)⟩ hk fun c t f e=>?_
  rw[ho] at e;cases e;cases hc
variable {W w w' w0:w9}{x:T3}{P:J2}{k:Int}{a:Bool}{B0 N br kn st:Nat}{L bs:List Int}
def Holds.my {c:Cont}(h:Holds w x c P){k:Nat}(F:Fr (fun b=>b=k) w w')(hk:∀ cs t f,w.heap[k]?≠some (.cells cs t f)):Holds w' x c P:=
 ⟨h.ok,fun j q hq=>by obtain⟨st,bs,h1,h2,h3,h4⟩:=h.mem j q hq;exact⟨st,bs,h1,h2,h3.fr F (fun b cs hb e=>by rw[e] at hb;exact hk _ _ _ hb),h4⟩,h.dev⟩
variable {B:P0}
def yB0 {c:Cont}{b0 bx:Nat}(hb:∀ r,B.at_ r<B0)(hw:w0<=B0):OwnFrom B0 (fun pre W=>Gw w0 B x c P a N b0 bx br (ae (m:=x.mem) pre) pre.length W):=
 zh (fun pre W W' h F=>by
   obtain⟨D,hS,hH,r⟩:=h.ex;exact⟨F.heap h.b0 id,F.heap h.bx id,F.heap h.br id,⟨D,hS.J0 F,hH.T1 (B:=B) (D0.none F),r⟩,h.fr.trans (D0.none F)⟩)
  (fun pre W W' k h F hk hc=>by
   obtain⟨D,hS,hH,r⟩:=h.ex;have n1:∀ b cs t f,W.heap[b]?=some (.cells cs t f)->¬ b=k:=fun b cs t f hb e=>by rw[e] at hb;exact hc _ _ _ hb
   exact⟨F.heap h.b0 (n1 _ _ _ _ h.b0),F.heap h.bx (n1 _ _ _ _ h.bx),F.heap h.br (n1 _ _ _ _ h.br),⟨D,hS.my F (fun r e=>by have:=hb r;omega) fun cs t=>hc cs t _,hH.my F hc,r⟩,
    ⟨F.os.trans h.fr.os,F.tape.trans h.fr.tape,F.output.trans h.fr.output,nT h.fr.size F.size,fun b P4 hn=>(F.block b (E4 P4 h.fr.size) oM).trans (h.fr.block b P4 hn)⟩⟩)
def zz0 (hb:∀ r,B.at_ r<B0)(hw:w0<=B0):OwnFrom B0 (fun (pre:List (uB x.mem)) W=>Zx w0 B x P a N br pre.length W):=
 zh (fun pre W W' h F=>by
   obtain⟨D,hS,r⟩:=h.ex;exact⟨F.heap h.br id,⟨D,hS.fr F id id id fun _ _ _ _ _ h=>h,r⟩,h.fr.trans (D0.none F),h.arm⟩)
  (fun pre W W' k h F hk hc=>by
   obtain⟨D,hS,r⟩:=h.ex;have n1:∀ b cs t f,W.heap[b]?=some (.cells cs t f)->¬ b=k:=fun b cs t f hb e=>by rw[e] at hb;exact hc _ _ _ hb
   exact⟨F.heap h.br (n1 _ _ _ _ h.br),⟨D,hS.fr F (fun e=>by have:=hb .d;simp only[P0.at_] at this;omega) (fun e=>by have:=hb .bf;simp only[P0.at_] at this;omega) (fun e=>by have:=hb .bq;simp only[P0.at_] at this;omega) fun g cs t _ hg e=>n1 _ _ _ _ hg e,r⟩,
    ⟨F.os.trans h.fr.os,F.tape.trans h.fr.tape,F.output.trans h.fr.output,nT h.fr.size F.size,fun b P4 hn=>(F.block b (E4 P4 h.fr.size) oM).trans (h.fr.block b P4 hn)⟩,h.arm⟩)
variable {m:Int->Option Pg}{q:Pg}
def ix0 (hq:m k=some q):aQ (cleaned m L) k (Pg.clean q) none=cleaned m (L++[k]):=by
 funext j
 simp only[aQ,Option.map_none];by_cases hj:j=k
 .subst hj;rw[if_pos rfl,cleaned,if_pos sP,hq];rfl
 .rw[if_neg hj,if_neg sP];unfold cleaned;by_cases h:j ∈ L
  .rw[if_pos h,if_pos (by simp[h])]
  .rw[if_neg h,if_neg (by simp[h,hj])]
def Tq:cleaned m L k=none↔m k=none:=by
 unfold cleaned;split <;> simp
variable {D:Dev}
def yD0 {W':w9}{c:Cont}(hH:Holds W (dr x L D) c P)(hq:x.mem kn=some q)(hc:c kn=some (st,bs))(hz:D.size=x.dev.size)(F:D0 B W W') :
  Holds W' (dr x (L++[(kn:Int)]) (D.wrote (x.first+kn) (D6 x.dev.size 2 kn st bs))) c P:=by
 have hsz:(D.wrote (x.first+kn) (D6 x.dev.size 2 kn st bs)).size=x.dev.size:=hz;refine⟨hH.ok,fun k p hp=>?_,fun k s b hk hm=>?_⟩
 .have hp':cleaned x.mem (L++[(kn:Int)]) k=some p:=hp;rw[<- ix0 hq] at hp';show ∃ st bs,_/\_/\_/\(_->P (x.first+k)=none)/\(_->(D.wrote _ _).sec (x.first+k)=D6 (D.wrote _ _).size 2 k.toNat st bs)
  rw[hsz,Dev.Ol];by_cases L8:k=kn
  .subst L8;simp only[aQ,if_true,Option.some.injEq] at hp';subst hp';have hm:∃ q',(dr x L D).mem kn=some q'/\q'.stamp=q.stamp/\q'.la=q.la/\q'.ll=q.ll/\q'.lc=q.lc:=by
    show ∃ q',cleaned x.mem L kn=some q'/\_
    unfold cleaned;split
    .exact⟨Pg.clean q,by rw[hq];rfl,rfl,rfl,rfl,rfl⟩
    .exact⟨_,hq,rfl,rfl,rfl,rfl⟩
   obtain⟨q',hq',e0,e1,e2,e3⟩:=hm;obtain⟨s0,b0,a1,a2,a3,a4,a5⟩:=hH.mem kn q' hq';rw[hc] at a1;cases a1;refine⟨st,bs,hc,by rw[<- a2];exact e0.symm,?_,fun h=>(by cases h),fun _=>by rw[if_pos rfl];simp⟩;rw[e1,e2,e3] at a3;exact a3.T1 F
  .simp only[aQ,if_neg L8,Option.map_none] at hp';rw[if_neg sP] at hp';obtain⟨s0,b0,a1,a2,a3,a4,a5⟩:=hH.mem k p hp';refine⟨s0,b0,a1,a2,a3.T1 F,a4,fun h=>?_⟩;rw[if_neg oM];have:=a5 h;rw[show (dr x L D).dev.size=x.dev.size from hz] at this;exact this
 .have O8:x.mem k=none:=Tq.1 hm;have L8:k≠kn:=by rintro rfl;rw[hq] at O8;cases O8
  show (D.wrote _ _).sec (x.first+k)=D6 (D.wrote _ _).size 2 k.toNat s b;rw[hsz,Dev.Ol,if_neg oM];have:=hH.dev k s b hk (Tq.2 O8);rw[show (dr x L D).dev.size=x.dev.size from hz] at this;exact this
def Bp0 {w2 W3 w4:w9}{c:Cont}{Bx:Nat}{la:Option Addr}{ll lc:Nat}{pre:List (uB x.mem)}{g:Option (Int × Pg)}
  (hI:Gw w B x c P a N w.heap.size (w.heap.size+2) (w.heap.size+1) (ae pre) pre.length W) (hS:X1 W B (dr x (ae pre) D)) (hH:Holds W (dr x (ae pre) D) c P) (mO:D.act.down=false) (ev:D.C0=x.dev.C0) (ig:D.size=x.dev.size)
  (hq:x.mem kn=some ⟨st,la,ll,lc,true⟩) (hc:c kn=some (st,bs)) (cZ:T0 W la ll lc bs) (J6:bs.length<=x.room) (wY:bj (D.wrote (x.first+kn) (D6 x.dev.size 2 kn st bs)) P a (N+pre.length+1)) (F2:D0 B W w2)
  (ce:w2.heap[Bx]?=some (.cells #[iI st,sL la ll lc,bO true] 162)) (OX:w<=Bx) (TU:∀ r,B.at_ r<B0) (hB0x:B0<=Bx)
  (S5:w2.setCell (aA Bx 2) (bO false)=W3) (T9:X1 W3 B { dr x (ae pre) D with dev:=D.wrote (x.first+kn) (D6 x.dev.size 2 kn st bs) }) (FN:Fr (fun b=>b=Bx) w2 W3)
  (d7:W3.heap[w.heap.size]?=some (.cells #[B.ptr] 23)) (U3:W3.heap[w.heap.size+2]?=some (.cells #[B.ptr] 23)) (lu:W3.heap[w.heap.size+1]?=some (.cells #[iI 0] 24))
  (hg:nJ (dr x (ae pre) D).mem (dr x (ae pre) D).places kn g) (re:cR w4 B.bc B.bp B.bm (dr x (ae pre) D).places (aQ (dr x (ae pre) D).mem kn ⟨st,la,ll,lc,false⟩ g)) (F4:Fr (fun b=>b=B.bc\/b=B.bp\/b=B.bm) W3 w4) :
  KeepsFrom B0 W w4/\yO W w4/\Gw w B x c P a N w.heap.size (w.heap.size+2) (w.heap.size+1) (ae (m:=x.mem) (pre++[⟨((kn:Int),⟨st,la,ll,lc,true⟩),hq,rfl⟩])) (pre++[(⟨((kn:Int),⟨st,la,ll,lc,true⟩),hq,rfl⟩:uB x.mem)]).length w4:=by
 have Pu:g=none:=by
  cases g with
  | none=>rfl
  | some g =>
   have h1:=hg.2.2.1;have h2:cleaned x.mem (ae pre) kn=none:=h1;rw[Tq,hq] at h2;cases h2
 subst Pu;have FR:eI B [.bc,.bp,.bm] W3 w4:=F4.mono fun b _ h=>MG h
 have n5:∀ b cs t f,W3.heap[b]?=some (.cells cs t f)->t ∉ aR->¬ (b=B.bc\/b=B.bp\/b=B.bm):=fun b cs t f hb ht h=>by
  obtain⟨r,_,rfl⟩:=MG h;exact ht ((T9.heaps r).2.1 cs t f hb)
 have vf:X1 w4 B (dr x (ae pre++[(kn:Int)]) (D.wrote (x.first+kn) (D6 x.dev.size 2 kn st bs))):=by
  have h1:=T9.XT FR (m:=aQ (cleaned x.mem (ae pre)) kn ⟨st,la,ll,lc,false⟩ none) re (WE T9 FR (n:=kn) (p:=⟨st,la,ll,lc,false⟩) (g:=none) ⟨bs,(cZ.T1 F2).M3 FN ce dC,J6⟩);rw[show (⟨st,la,ll,lc,false⟩:Pg)=Pg.clean ⟨st,la,ll,lc,true⟩ from rfl,ix0 hq] at h1;exact h1
 have hL:ae (m:=x.mem) (pre++[⟨((kn:Int),⟨st,la,ll,lc,true⟩),hq,rfl⟩])=ae pre++[(kn:Int)]:=by simp[ae]
 have hlen:(pre++[(⟨((kn:Int),⟨st,la,ll,lc,true⟩),hq,rfl⟩:uB x.mem)]).length=pre.length+1:=by simp
 have hH4:=(((yD0 hH hq hc ig F2).M3 FN ce dC)).T1 (T9.T1 FR);refine⟨?_,?_,?_⟩
 .have k1:=(F2.keeps TU).trans (((KeepsOthers.setCell w2 ⟨Bx,2,none⟩ (bO false)).from B0));rw[S5] at k1;refine k1.trans ⟨F4.size,fun k o hk ho hc=>F4.heap ho fun h=>?_⟩;obtain⟨r,_,rfl⟩:=MG h;have:=TU r;omega
 .intro g' c' f' I1;have h2:=F2.heap I1 dC;have h3:=FN.heap h2 (fun e=>by rw[e,ce] at h2;cases h2);exact F4.heap h3 (n5 _ _ _ _ h3 dC)
 .rw[hL,hlen];have gJ:D0 B w W3:=by
   rw[<- S5];exact (hI.fr.trans F2).setCell (a:=⟨Bx,2,none⟩) (fun h=>absurd h sO) _
  exact⟨F4.heap d7 (n5 _ _ _ _ d7 dC),F4.heap U3 (n5 _ _ _ _ U3 dC),F4.heap lu (n5 _ _ _ _ lu dC),
   ⟨_,vf,hH4,wY,mO,ev,ig⟩,gJ.trans (T9.T1 FR)⟩
def lF0 {n:Nat}{R:Ending->World->Prop}{tmps:Array Value}{DD:Nat}{v:Int}(q:W.heap[br]?=some (.cells #[iI v] 24))
  (hK:W.heap[DD]?=some (.deferred (some []))) (hD:br<DD) (hR:R (rT (iI v)) (W.putObj DD (.deferred none))) (t2:tmps.getD 2 undef = pO br) :
  bodyPostM Fence.wide n prog Tryz.f39 R .ret { tmps:=tmps,defers:=[{ target:=.collected DD,args:=#[] }] } W:=by
 have e1:(W.putObj DD (.deferred none)).cell? br=some (iI v):=by
  have:=G0 ((aC W DD (.deferred none) br oM).trans q) 0;simpa using this
 refine⟨by simp,.inl ⟨_,_,rfl,run_takeDeferred hK,_,?_,hR⟩⟩;rw[Mk] at t2;simp[results,Tryz.results39,go_sem,t2,e1]
def Ab0 (B:P0)(x:T3)(c:Cont)(P:J2)(a:Bool)(N:Nat)(w:w9)(e:Ending)(w':w9):Prop:=
 ∃ err,e = rT (iI err)/\D0 B w w' /\
  ((err=0/\∃ L D,X1 w' B (dr x L D)/\Holds w' (dr x L D) c P/\bj D P a (N+x.places)/\D.down=false/\D.C0=x.dev.C0/\D.size=x.dev.size/\∀ k q,cleaned x.mem L k=some q->q.dirty=false) \/
   (err=4/\a=true/\∃ D,Q4 w' B.base B.d B.bf B.bq D/\bj D P a (N+x.places)/\D.down=true/\D.C0=x.dev.C0/\D.size=x.dev.size))
def vK0 {c:Cont}(h:X1 w B x)(hi:Is w x c P a N)(hN:N+x.places<=90000) :
  cP 39 #[B.ptr] w (Ab0 B x c P a N w):=by
 refine (callsIn_wide (n:=10)).1 ?_;obtain⟨W1,M2⟩:=eX ((w.alloc (.cells #[B.ptr] 23)).alloc (.cells #[iI 0] 24))
 obtain⟨x0,x1,F1⟩:=n9 M2;have s1:W1.heap.size=w.heap.size+2:=by rw[<- M2];simp
 have c0:=G0 x0 0;simp at c0;have HDI:=hid (sX0 (some ⟨B.s,0,none⟩) W1);have HX:=hi2 x0 (aI x1 F1);have H:=hi2 h hi;have R6:=hid M2;have l1:=M0 x0;clear M2 x0 x1 F1 h hi;refine callsIn_of_wp_marks func39 rfl trivial ?_ rfl;simp only[ntmps39,zA,lC,cJ,Nat.reduceAdd,Nat.reduceSub,dV,dW,dZ,dX,C7,ak];gi_wp2_with (fail)
 rw[R6];refine (callsIn_wide.2 HDI.o).mono ?_;rintro e w' ⟨rfl,rfl⟩;gi_wp2_with (fail)
 obtain⟨W0,B4⟩:=eX (W1.alloc (.cells #[B.ptr] 23))
 have F10:=fA B4
 have U3:W0.heap[w.heap.size+2]?=some (.cells #[B.ptr] 23):=by rw[<- B4,<- s1];exact han _ _
 have bu:=HX.2.2.trans F10 nI;have hsz:W0.heap.size=w.heap.size+3:=by rw[<- B4];simp;omega
 have De:cleaned x.mem []=x.mem:=by funext k;simp[cleaned]
 have hX0:dr x [] x.dev=x:=by rw[dr,De]
 have pw:Gw w B x c P a N w.heap.size (w.heap.size+2) (w.heap.size+1) [] 0 W0:=
  ⟨F10.heap HX.1 id,U3,F10.heap HX.2.1 id,⟨x.dev,by rw[hX0];exact H.1.J0 bu,by rw[hX0];exact H.2.holds.T1 (B:=B) (D0.none bu),H.2.dev,H.2.down,rfl,rfl⟩,D0.none bu⟩
 have J6:∀ r,B.at_ r<W0.heap.size:=fun r=>by have:=(H.1.heaps r).2.2.1;omega
 rw[B4];refine ju0 (F:=Fence.wide) rfl oM (gf:=168) (lb:=#[pO (aP (w+2) 0)]) rfl trivial (enters_of func168 kF rfl)
  (fun pre W=>Gw w B x c P a N w.heap.size (w.heap.size+2) (w.heap.size+1) (ae (m:=x.mem) pre) pre.length W)
  (nc0 (w:=W0) (B:=B) (n:=x.places) oM fun pre W hI=>⟨hI.bx,by obtain⟨D,hS,_⟩:=hI.ex;exact⟨_,hS,rfl,rfl⟩⟩)
  (fun h k g c f hg=>k g c f (h g c f hg)) (fun W l o o' hl ho hc _ g c f hg=>by rw[aC _ _ _ _ (by rintro rfl;rw[hg] at ho;cases ho;cases hc)];exact hg) (Below.refl _ _) (fun _=>rfl)
  (fun cc pre W=>cc = .ret/\Zx w B x P a N (w.heap.size+1) pre.length W)
  (yB0 J6 oM) (fun cc=>U6 (eR _ _) (zz0 J6 oM)) pw
  (fun y a' W=>∃ Bx,(W0.heap.size<=Bx/\W.heap[Bx]?=some (.cells #[iI y.1.2.stamp,sL y.1.2.la y.1.2.ll y.1.2.lc,bO y.1.2.dirty] 162))/\a'={ tmps:=#[B.ptr,pO w,pO (aP (w+1) 0),iI y.1.1,pO (aP Bx 0),undef,B.ptr,bO false,B.ptr,.func (.func 168) #[] #[pO (aP (w+2) 0)],iI y.1.1,y.1.2.val,undef,undef,undef,undef,undef,undef,undef,undef,undef,undef,undef,undef,undef,undef,undef],defers:=[] })
  (fun x a'=>sj fun Bx=>U6 (U6 (eR _ _) (gU _ _ _ fun _=>.inl rfl)) (eR _ _))
  ?assign ?body ?done ?stop
 case assign =>
  rintro l pre ⟨⟨key,⟨yq,la,ll,lc,di⟩⟩,hq,hd⟩ W K hI hK;simp only at hq hd;subst hd;have kG:W0<=(W:Nat):=by have:=M0 hI.bx;omega
  have FN:Fq W (W.alloc (.cells #[iI yq,sL la ll lc,bO true] 162)):=fR.alloc _;have HI:=hid hI;have HK:=hid hK;clear hI hK;gi_wp2
  obtain⟨h0,h1,h2,⟨D,hS,hH,r⟩,hF⟩:=HI.o;exact HK _ _ ((KeepsOthers.alloc _ _).from _) (yO.fr FN) ⟨FN.heap h0 id,FN.heap h1 id,FN.heap h2 id,⟨D,hS.J0 FN,hH.T1 (B:=B) (D0.none FN),r⟩,hF.trans (D0.none FN)⟩ ⟨W.heap.size,⟨kG,han _ _⟩,rfl⟩
 case body =>
  rintro l pre ⟨⟨key,⟨yq,la,ll,lc,di⟩⟩,hq,hd⟩ a' W hl ⟨r,hr⟩ hI ⟨Bx,⟨OX,pE⟩,rfl⟩ hlen;simp only at hq hd pE;subst hd;obtain⟨D,hS,hH,hD,hdn,ev,ig⟩:=hI.ex;obtain⟨st,bs,hc,hst,_,hP,_⟩:=H.2.holds.mem key _ hq;obtain⟨g1,g2,g3,g4⟩:=H.2.holds.ok key st bs hc;simp only at hst hP;subst hst;obtain⟨kn,rfl⟩:=iZ g1.1;have cZ:T0 W la ll lc bs:=by
   have jb:∃ q',(dr x (ae pre) D).mem kn=some q'/\q'.la=la/\q'.ll=ll/\q'.lc=lc:=by
    show ∃ q',cleaned x.mem (ae pre) kn=some q'/\_
    unfold cleaned;split
    .exact⟨_,by rw[hq];rfl,rfl,rfl,rfl⟩
    .exact⟨_,hq,rfl,rfl,rfl⟩
   obtain⟨q',hq',rfl,rfl,rfl⟩:=jb;obtain⟨st',bs',hc',_,P4,_⟩:=hH.mem kn q' hq';rw[hc] at hc';cases hc';exact P4
  have Uz:=cZ.len;have C8:=hS.rg;have HO:=hid (out_ok hS hdn (nT hD.acts oM) hD.armed (nT hD.many oM) kn (show kn<x.pages by omega) st g2 true cZ g4 (show ll<=x.room by omega));have HI:=hi2 hI (aI hS (aI hH (aI hD (aI hdn (aI ev ig)))));have HC:=hi2 hc (aI (hP trivial) (aI g4 cZ));have jq:=hid pE;have y0:=G0 hI.b0 0;obtain⟨z0,z1,z2,zz,zl⟩:=cells3 pE;simp at y0;clear hI hS hH hD hdn ev ig hc hP cZ g4 pE hr;gi_wp2_with (fail)
  refine (CallsIn.inRound l (callsIn_wide.2 HO.o)).mono ?_;rintro e w2 ⟨D2,err,rfl,io,cB,F2⟩;obtain⟨hI,hS,hH,hD,hdn,ev,ig⟩:=HI.o;obtain⟨hc,hPn,g4,cZ⟩:=HC.o;have L4:(D6 x.dev.size 2 kn st bs).length=x.dev.size:=NQ (by have:=H.1.rg.2.2.2.2;omega);have Lu:(D2,err)=(D.wrote (x.first+kn) (D6 x.dev.size 2 kn st bs),if D.act.down then 4 else 0):=by
   rw[io];show D.write (x.first+kn) (D6 D.size 2 (kn:Int).toNat (st:Int).toNat bs)=_;rw[ig];exact Dev.pC0 hdn (by have:=H.1.rg;omega) (by rw[ig];exact L4)
  obtain⟨rfl,JP⟩:=Prod.mk.inj Lu;have wY:=hD.wrote (at_:=x.first+kn) (bs:=D6 x.dev.size 2 kn st bs) (by rw[ig];exact L4) hPn (Tz g4);have ce:=F2.heap jq dC;have xj:=F2.heap hI.b0 dC;have CC:=F2.heap hI.bx dC;have mL:=F2.heap hI.br dC;have AY:=hid (F2.keeps J6);have HE:=hid JP;have H2:=hi2 cB (aI wY (aI F2 (aI ce (aI xj (aI CC mL)))));have nr:∀ r,B.at_ r<w.heap.size:=fun r=>(H.1.heaps r).2.2.1
  have NR:=hid nr;have sW:=hI.fr.size;have IJ:W0.heap.size<=Bx:=OX;clear hI hS hH hD hdn ev ig hc hPn g4 cZ io Lu cB wY F2 JP nr;obtain⟨y1,y2,y3,yz,yl⟩:=cells3 ce;have u0:=G0 xj 0;have u1:=G0 mL 0;have uz:=X2 mL 0;simp at u0 u1;clear ce xj CC mL;by_cases mO:D.act.down=true
  .obtain rfl:err=4:=by have:=HE.o;rw[if_pos mO] at this;exact this
   have Na:=hid mO;clear mO;gi_wp2
   obtain⟨cB,wY,F2,ce,xj,CC,mL⟩:=H2.o;obtain⟨hI,hS,hH,hD,hdn,ev,ig⟩:=HI.o;have FL:Fr (fun b=>b=w.heap.size+1) w2 (w2.setCell (aA (w+1) 0) (iI 4)):=(Fr.refl (fun b=>b=w.heap.size+1) _).setCell (a:=⟨w+1,0,none⟩) (fun _=>rfl) _;refine⟨AY.trans ((KeepsOthers.setCell _ _ _).from _),rfl,?_⟩;refine⟨by rw[hsc _ _ _ _ mL];rfl,⟨_,cB.dev.fr FL (by have:=NR.o .d;simp only[P0.at_] at this;omega) (by have:=NR.o .bf;simp only[P0.at_] at this;omega) (by have:=NR.o .bq;simp only[P0.at_] at this;omega) (fun g cs t ht hg e=>by rw[e,mL] at hg;cases hg;rcases ht with h|h|h <;> cases h),by simpa[qg] using wY,Na.o,ev,ig⟩,?_,?_⟩
   .exact (hI.fr.trans F2).setCell (a:=⟨w+1,0,none⟩) (fun h=>absurd h sP) _
   .cases a with
    | true=>rfl
    | false=>have:=Na.o;rw[Dev.XN hdn (hD.calm rfl)] at this;cases this
  .obtain rfl:err=0:=by have:=HE.o;rw[if_neg mO] at this;exact this
   have Na:=hid mO;clear mO;obtain⟨W3,S5⟩:=eX (w2.setCell (aA Bx 2) (bO false))
   have FN:Fr (fun b=>b=Bx) w2 W3:=by rw[<- S5];exact (Fr.refl (fun b=>b=Bx) _).setCell (a:=⟨Bx,2,none⟩) (fun _=>rfl) _
   have dQ:W3.heap[Bx]?=some (.cells #[iI st,sL la ll lc,bO false] 162):=by rw[<- S5,hsc _ _ _ _ H2.2.2.2.1];rfl
   have xk:=FN.heap H2.2.2.2.2.1 oM;have CD:=FN.heap H2.2.2.2.2.2.1 oM;have CA:=FN.heap H2.2.2.2.2.2.2 oM;have T9:=H2.1.M3 FN H2.2.2.2.1 dC;have HPM:=hid fun Wd (F:Fq W3 Wd)=>mY0 ((T9.J0 F).mem) kn ⟨st,la,ll,lc,false⟩;obtain⟨v1,v2,v3,vz,vl⟩:=cells3 dQ;have t0:=G0 xk 0;simp at t0;have c17:=T9.sc.c17;have l3:=T9.sc.lt;have fx:=hid S5;have H3:=hi2 T9 (aI FN (aI dQ (aI xk (aI CD CA))));have hmix:prog.follows .mixedOrders=true:=by kernel_rfl
   have FIN:=hid (fun (w4:w9) (g:Option (Int × Pg)) (hg:nJ (dr x (ae pre) D).mem (dr x (ae pre) D).places kn g) (re:cR w4 B.bc B.bp B.bm (dr x (ae pre) D).places (aQ (dr x (ae pre) D).mem kn ⟨st,la,ll,lc,false⟩ g)) (F4:Fr (fun b=>b=B.bc\/b=B.bp\/b=B.bm) W3 w4) =>
    Bp0 HI.1 HI.2.1 HI.2.2.1 (by simpa using Na.o) HI.2.2.2.2.2.1 HI.2.2.2.2.2.2 hq HC.1 HC.2.2.2 g3 H2.2.1 H2.2.2.1 H2.2.2.2.1 oM J6 IJ S5 T9 FN xk CD CA hg re F4)
   clear T9 FN dQ xk CD CA S5;gi_upto_region 10 with fail
   rw[fx];clear y1 y2 y3 yz yl u0 u1 uz z0 z1 z2 zz y0;gi_region_with_o ((gi_at_call 111;refine (CallsIn.inRound l (callsIn_wide.2 (HPM _ (by first|exact fR|exact fR.drew)))).mono ?_;rintro e w4 ⟨g,hg,rfl,re,F4⟩))
   all_goals exact FIN w4 g hg re (by first|with_reducible exact F4|exact fR.drew.trans F4 nI)
 case done =>
  rintro DD xs W wZ ⟨jj,dS⟩ hI hK;have u1:=G0 hI.br 0;have uz:=X2 hI.br 0;simp at u1;have HI:=hi2 hI hK;clear hI hK;gi_wp2
  obtain⟨hI,hK⟩:=HI.o;obtain⟨D,hS,hH,hD,hdn,ev,ig⟩:=hI.ex;obtain⟨W3,S5⟩:=eX (W.setCell (aA (w+1) 0) (iI 0))
  have FL:Fr (fun b=>b=w.heap.size+1) W W3:=by rw[<- S5];exact (Fr.refl (fun b=>b=w.heap.size+1) _).setCell (a:=⟨w+1,0,none⟩) (fun _=>rfl) _
  have pU:W3.heap[w.heap.size+1]?=some (.cells #[iI 0] 24):=by rw[<- S5,hsc _ _ _ _ hI.br];rfl
  have zu:=FL.heap hK oM;have gJ:D0 B w W3:=by rw[<- S5];exact hI.fr.setCell (a:=⟨w+1,0,none⟩) (fun h=>absurd h sP) _
  have T9:=hS.M3 FL hI.br dC;have hH3:=hH.M3 FL hI.br dC;have FP:Fr (fun b=>b=DD) W3 (W3.putObj DD (.deferred none)):=(Fr.refl (fun b=>b=DD) _).putObj (fun _=>rfl) _;have nc:∀ c t f,W3.heap[DD]?≠some (.cells c t f):=fun c t f e=>by rw[zu] at e;cases e
  rw[S5];refine lF0 pU zu oM ⟨0,rfl,gJ.putObj (fun h=>absurd h oM) _,.inl ⟨rfl,ae xs,D,T9.my FP (fun r e=>by have:=J6 r;omega) fun cs t=>nc cs t _,hH3.my FP nc,hD.mono oM,hdn,ev,ig,fun k q hk=>?_⟩⟩ rfl;cases hq:q.dirty with
  | false=>rfl
  | true =>
   obtain⟨h1,h2⟩:=km0 hk hq;exact absurd (jj k q h1 hq) h2
 case stop =>
  rintro DD cc pre W wZ mF ⟨rfl,hX⟩ hK;have jq:=hi2 hX hK;clear hX hK;gi_wp2
  obtain⟨hX,hK⟩:=jq.o;obtain⟨D,hD,hok,hdn,ev,ig⟩:=hX.ex;have FP:Fr (fun b=>b=DD) W (W.putObj DD (.deferred none)):=(Fr.refl (fun b=>b=DD) _).putObj (fun _=>rfl) _;have nc:∀ g cs t f,W.heap[g]?=some (.cells cs t f)->¬ g=DD:=fun g cs t f e e'=>by rw[e',hK] at e;cases e
  refine lF0 hX.br hK oM ⟨4,rfl,hX.fr.putObj (fun h=>absurd h oM) _,.inr ⟨rfl,hX.arm,D,hD.fr FP (by have:=J6 .d;simp only[P0.at_] at this;omega) (by have:=J6 .bf;simp only[P0.at_] at this;omega) (by have:=J6 .bq;simp only[P0.at_] at this;omega) fun g cs t _ hg=>nc g cs t _ hg,hok.mono oM,hdn,ev,ig⟩⟩ rfl
structure nH (l:Nat)(w:w9)(B:P0)(y:Cs)(P:J2)(a:Bool)(N:Nat):Prop where
 ex:∃ x c,X1 w B x/\y=x.cs c/\Is w x c P a N/\(1<=l->∀ k q,x.mem k=some q->q.dirty=false)/\(2<=l->x.dev.loose=[])
 tab:Tab w
 base:0<B.base
def nH.c {l:Nat}{w:w9}{B:P0}{y:Cs}{P:J2}{a:Bool}{N:Nat}(h:nH l w B y P a N):C1 w B y P a N:=by
 obtain⟨x,c,h1,h2,h3,_⟩:=h.ex;exact⟨⟨x,c,h1,h2,h3⟩,h.tab,h.base⟩
variable {y:Cs}
def nH.J0 {l:Nat}(h:nH l w B y P a N)(F:Fq w w'):nH l w' B y P a N:=by
 obtain⟨⟨x,c,hS,hy,hi,hl⟩,ht,hb⟩:=h;exact⟨⟨x,c,hS.J0 F,hy,{ hi with holds:=hi.holds.T1 (B:=B) (D0.none F) },hl⟩,ht.fr F id,hb⟩
def Aa0 (B:P0)(y:Cs)(P:J2)(a:Bool)(N:Nat)(w:w9)(e:Ending)(w':w9):Prop:=
 ∃ err,e = rT (iI err)/\D0 B w w'/\((err=0/\nH 1 w' B y P a (N+y.places))\/(err=4/\a=true/\C5 w' B y P (N+y.places)))
def yA0 (h:C1 w B y P a N)(hN:N+y.places<=90000):cP 39 #[B.ptr] w (Aa0 B y P a N w):=by
 obtain⟨⟨x,c,hS,rfl,hi⟩,hT,hb⟩:=h;refine (vK0 hS hi hN).mono ?_;rintro e w' ⟨err,he,F,⟨rfl,L,D,K8,hH',uX,hdn,ev,ig,B6⟩|⟨rfl,ha,D,hA,uX,hdn,ev,ig⟩⟩
 .refine⟨0,he,F,.inl ⟨rfl,⟨⟨dr x L D,c,K8,?_,⟨hdn,uX,hH',hi.rq,hi.apart,hN⟩,fun _=>B6,fun h=>absurd h oM⟩,hT.fr F fun h=>oM,hb⟩⟩⟩;simp[T3.cs,dr,ev,ig]
 .subst ha;exact⟨4,he,F,.inr ⟨rfl,rfl,⟨D,hA,uX,hdn,ev,ig⟩⟩⟩
end Go.Proofs.YtgdhaaokolfdoaaGreatDoor
namespace Go.Sg
open Go.RowKit
def qq0 {size place stamp n:Nat}{load:List Int}:D6 size 2 place stamp load≠List.replicate n 0:=by
 intro h;have h1:(D6 size 2 place stamp load)[0]?=some 2:=by simp[D6,ju,leB]
 rw[h,rk] at h1;split at h1
 .simp at h1
 .cases h1
variable {D:Dev}{k:Int}{P:Int->Option (List Int)}{a:Bool}{N:Nat}
def nX0 (hl:D.loose=[]){bs:List Int}(hne:∀ n,bs≠List.replicate n 0)(h:D.sec k=bs):D.fast k=some bs:=by
 rw[Iv (by rw[hl];intro z hz;cases hz)] at h;cases hf:D.fast k with
 | none=>rw[hf] at h;exact absurd h.symm (hne _)
 | some v=>rw[hf] at h;exact congrArg some h
def ux (f:Int->Option (List Int))(k:Int)(bs:List Int):Int->Option (List Int):=fun j=>if j=k then some bs else f j
def BP (f:Int->Option (List Int))(l:List (Int × List Int)):Int->Option (List Int):=l.foldl (fun f y=>ux f y.1 y.2) f
def gl0 (f:Int->Option (List Int))(l:List (Int × List Int))(y:Int × List Int):BP f (l++[y])=ux (BP f l) y.1 y.2:=by
 simp[BP]
def nY0 (f:Int->Option (List Int))(k:Int)(l:List (Int × List Int)):BP f l.reverse k=((l.find? fun y=>decide (y.1=k)).map (·.2)).or (f k):=by
 induction l with
 | nil=>rfl
 | cons y l ih =>
  rw[List.reverse_cons,gl0,uj];by_cases h:y.1=k
  .simp[ux,h]
  .have h':¬ k=y.1:=fun e=>h e.symm
   simp only[ux,if_neg h',decide_eq_false h];exact ih
def Dev.synced (D:Dev):Dev:={ D.act with fast:=BP D.fast D.loose,loose:=[] }
def Dev.Tu (D:Dev)(k:Int):D.synced.fast k=((D.loose.reverse.find? fun y=>decide (y.1=k)).map (·.2)).or (D.fast k):=by
 have:=nY0 D.fast k D.loose.reverse;rw[List.reverse_reverse] at this;exact this
def Dev.jA0 (D:Dev)(k:Int):D.synced.sec k=D.sec k:=by
 have h1:D.synced.sec k=(D.synced.fast k).getD (List.replicate D.size 0):=Iv (D:=D.synced) (fun z hz=>by cases hz);rw[h1,Dev.Tu,Dev.sec];cases D.loose.reverse.find? (fun y=>decide (y.1=k)) <;> rfl
def sN0 (h:∀ y ∈ D.loose,y.1≠k):D.synced.fast k=D.fast k:=by
 rw[Dev.Tu];rw[Qm.2 fun y hy=>by have:=h y (Qs.1 hy);simpa using this];rfl
def bj.synced (h:bj D P a N):bj D.synced P a (N+1):=by
 refine⟨Qt h.acts,by simp[Dev.synced],fun y hy=>(by cases hy),fun k bs hk=>⟨?_,fun y hy=>by cases hy⟩,?_,fun ha=>?_,⟨fun y hy=>(by cases hy),fun k bs hk=>?_⟩⟩
 .rw[sN0 (h.cu k bs hk).2];exact (h.cu k bs hk).1
 .show D.armed-1<=_;have:=h.armed;omega
 .show D.armed-1=0;rw[h.calm ha]
 .rw[Dev.Tu] at hk;cases hf:D.loose.reverse.find? (fun y=>decide (y.1=k)) with
  | none=>rw[hf] at hk;exact h.jY.2 k bs hk
  | some y =>
   rw[hf] at hk;cases hk;exact h.jY.1 y (Qs.1 (Xz hf))
structure rP0 (D D':Dev):Prop where
 C0:D'.C0=D.C0
 size:D'.size=D.size
 acts:D'.acts=D.acts
 loose:D'.loose=[]
 armed:D'.armed=0
 down:D'.down=false
 fast:∀ k,(∀ y ∈ D.loose,y.1≠k)->D'.fast k=D.fast k
 jY:((∀ y ∈ D.loose,∀ x ∈ y.2,0<=x/\x<256)/\∀ k bs,D.fast k=some bs->∀ x ∈ bs,0<=x/\x<256)->∀ k bs,D'.fast k=some bs->∀ x ∈ bs,0<=x/\x<256
def bj.crash {D':Dev}(h:bj D P a N)(k:rP0 D D'):bj D' P false N:=by
 have nl:∀ {p:Int × List Int->Prop},∀ y ∈ D'.loose,p y:=by rw[k.loose];intro p y hy;cases hy
 refine⟨by rw[k.acts];exact h.acts,by rw[k.loose];exact C3 _,nl,fun s bs hs=>⟨?_,nl⟩,by rw[k.armed];omega,fun _=>k.armed,⟨nl,k.jY h.jY⟩⟩;rw[k.fast s (h.cu s bs hs).2];exact (h.cu s bs hs).1
end Go.Sg
namespace Go.Proofs.YtgdhaaokolfdoaaGreatDoor
open Tryz
section
open Go.RowKit Go.Sg Go.Sg.Bits Go.Sg.r4 CP SF
def Ao (x:T3):D4:=fun s=>if x.first<=s/\(s-x.first).toNat<x.pages/\x.taken (s-x.first).toNat=true/\x.dead ((s-x.first).toNat:Int)=false then x.dev.fast s else none
def WY (x:T3)(k:Nat):Ao x (x.first+k)=if k<x.pages/\x.taken k=true/\x.dead k=false then x.dev.fast (x.first+k) else none:=by
 have h:(x.first+(k:Int)-x.first).toNat=k:=oM
 unfold Ao;rw[h];by_cases c:k<x.pages/\x.taken k=true/\x.dead k=false
 .rw[if_pos c,if_pos ⟨oM,c⟩]
 .rw[if_neg c,if_neg fun e=>c e.2]
def qO0 {x:T3}{s:Int}{v:List Int}(h:Ao x s=some v):x.dev.fast s=some v:=by
 unfold Ao at h;split at h
 .exact h
 .cases h
def yi0 (B:P0)(y:Cs)(P:J2)(a:Bool)(N:Nat)(w w':w9):Prop:=
 ∃ n,∃ P':D4,C1 w' (P0.next B n) y.commit P' a N/\w.heap.size<=n/\∀ k:Nat,k<y.pages->y.taken k=true->y.dead k=false ->
  (∀ st bs,y.cont k=some (st,bs)->P' (y.first+k)=some (D6 y.size 2 k st bs))/\∀ v,P (y.first+k)=some v->P' (y.first+k)=some v
def vW0 {w:w9}{B:P0}{y:Cs}{P:J2}{a:Bool}{N:Nat}(h:nH 2 w B y P a N)(hg:y.gen<2199023255552) :
  cP 37 #[B.ptr] w fun e w'=>e = rT (tU #[])/\D0 B w w'/\yi0 B y P a N w w':=by
 obtain⟨⟨x,c,hS,rfl,hi,nY,A8⟩,hT,hb⟩:=h;have B6:=nY oM;have oa:=A8 oM;have Cn:=hi.apart;refine (sg0 hS (fun k hk=>?_) hg).mono ?_
 .obtain⟨n,rfl⟩:=iZ (hS.inr.2.2 k hk).1;exact Cn.et n hk
 rintro e w' ⟨n,he,K8,F,hn⟩;have hh:=hi.holds.T1 F;have dP:∀ k:Nat,∀ st bs,c k=some (st,bs)->x.dev.sec (x.first+k)=D6 x.dev.size 2 k st bs:=fun k st bs hk=>by
  cases hm:x.mem k with
  | none=>have:=hi.holds.dev k st bs hk hm;simpa using this
  | some q =>
   obtain⟨s0,b0,a1,_,_,_,a5⟩:=hi.holds.mem k q hm;rw[hk] at a1;cases a1;have:=a5 (B6 k q hm);simpa using this
 refine⟨he,F,n,Ao x,⟨⟨_,fun k=>if x.dead k then none else c k,K8,rfl,hi.down,⟨hi.dev.acts,hi.dev.many,hi.dev.len,fun k v hv=>⟨qO0 (x:=x) hv,by show ∀ y ∈ x.dev.loose,_;rw[oa];intro y hy;cases hy⟩,hi.dev.armed,hi.dev.calm,hi.dev.jY⟩,⟨fun k s b hk=>?_,fun k q hq=>?_,fun k s b hk hm=>?_⟩,fun _ k hk hne=>?_,?_,hi.few⟩,hT.fr F fun h=>oM,hb⟩,hn,fun k hk ht hd=>⟨fun st bs hc=>?_,fun v hv=>?_⟩⟩
 .split at hk
  .cases hk
  .exact hh.ok k s b hk
 .have hq':(if x.dead k then none else x.mem k)=some q:=hq;split at hq'
  .cases hq'
  .rename_i hdk;obtain⟨s0,b0,a1,a2,a3,a4,a5⟩:=hh.mem k q hq';refine⟨s0,b0,by rw[if_neg hdk];exact a1,a2,a3,fun Fe=>?_,a5⟩;rw[B6 k q hq'] at Fe;cases Fe
 .split at hk
  .cases hk
  .rename_i hdk;have O8:(if x.dead k then none else x.mem k)=none:=hm;rw[if_neg hdk] at O8;exact hh.dev k s b hk O8
 .have bX:Ao x (x.first+k)≠none:=hne;rw[WY] at bX;split at bX
  .rename_i hc;refine⟨?_,rfl⟩;show (x.taken k && !x.dead k)=true;rw[hc.2.1,hc.2.2];rfl
  .exact absurd rfl bX
 .refine⟨fun k hk=>(by cases hk),fun k hk=>(by cases hk),fun k hk=>?_,fun k hk=>(by cases hk),fun k hk=>by cases hk⟩;have A5:x.dying k=true:=hk;show (x.taken k && !x.dead k)=true;rw[Cn.yt k A5,Cn.ye k A5];rfl
 .show Ao x (x.first+k)=_;rw[WY,if_pos ⟨hk,ht,hd⟩];exact nX0 oa (fun n=>qq0) (dP k st bs hc)
 .show Ao x (x.first+k)=_;rw[WY,if_pos ⟨hk,ht,hd⟩];exact (hi.dev.cu _ v hv).1
end
section
open Go.RowKit Go.Sg
def IA (W:w9)(B:Nat)(hB:B<=W)(e:TypeId)(size:Nat)(v:Value)(h:v = sL W 0 0):(W.alloc (.cells #[] e)).ownsRow B e size v 0 []:=by
 subst h;exact World.ownsRow_lit W #[] 0 hB (C3 _) sP
variable {w w' w1 wr:w9}{b base bf bq c d e j n size:Nat}{bs:List Int}{v:Value}{a:Option Addr}{xs:List Value}
def xu0 {ad:Addr}(h:uN w (some ad) n c bs):∀ (j:Nat) (u:Value),(bs.map (Value.int .u8))[j]?=some u->w.cell? (ad.add j)=some u:=fun j u hu=>by
 rw[gP] at hu;cases hx:bs[j]? with
 | none=>rw[hx] at hu;cases hu
 | some x =>
  rw[hx] at hu;cases hu;obtain⟨b',off',e,hb,hc⟩:=h.Y6.at_ j x hx;cases e;rw[addr_add];exact hc
def jc0 (h:w.ownsRow base 5 1 v n (bs.map (Value.int .u8))):∃ a c,v = sL a n c/\T0 w a n c bs:=by
 by_cases hv:v = sL none 0 0
 .obtain⟨hl,⟨_,rfl⟩|⟨g,cap,cur,e,_⟩⟩:=h
  .have:bs=[]:=by simpa using hl
   subst this;exact⟨none,0,hv,T0.nil w⟩
  .rw[hv] at e;cases e
 .obtain⟨g,cap,c,e,hg,hb⟩:=Ob h hv;exact⟨_,_,e,hb,.inr ⟨g,0,c,rfl,hg⟩⟩
def rx (w:w9)(v:Value)(m:Nat)(news:List Value):Prop:=
 ∃ a c,v = sL a m c/\((a=none/\m=0/\c=0/\news=[])\/∃ ad,a=some ad/\∀ j u,news[j]?=some u->w.cell? (ad.add j)=some u)
def mq {P:Program}{ops:Array Oper}{rest:List Oper}{o:Oper}{a:Act}{Q:Exit->Act->World->Prop}(lF:o.guard=none)(s x:Operand)(t:TypeId)
  (ho:o.op = .call { callee:=.builtin .append,args:=#[s,x],argTypes:=#[t,t] }) (base:Nat) (e:TypeId) (i:TypeInfo) (z:Value) (size bytes:Nat) (ht:P.underlying t=some (.slice e)) (hi:P.info? e=some i) (hz:i.zero=some z)
  (fh:i.size=size) (O2:i.bytes=bytes) (dA:z.cells.size=size) (hsz:0<size) (v:Value) (n:Nat) (xs:List Value) (hs:a.eval s=v) (A0:w.ownsRow base e size v n xs)
  (vx:Value) (m:Nat) (news:List Value) (hx:a.eval x=vx) (df:rx w vx m news) (hl:news.length=m*size) (h1:∀ u ∈ news,u.oneCell'=true) (BU:n+m<=maxLen) (aV:(n+m)*bytes<=140737488355328) (Z0:base<=w)
  (h:∀ v' w',w'.ownsRow base e size v' (n+m) (xs++news)->w.grownBy w' v.ownBlock->(v≠sL none 0 0->v'≠sL none 0 0)->wpList P ops Q rest (a.put o.dst v') w'):wpList P ops Q (o :: rest) a w:=by
 obtain⟨a',c,rfl,⟨rfl,rfl,rfl,rfl⟩|⟨ad,rfl,hc⟩⟩:=df
 .exact wpList_append_own_none lF s x t ho base e i size ht hi v n xs hs A0 hx (h v w (by simpa using A0) ⟨rfl,rfl,rfl,nR _,fun _ _ _=>rfl⟩ id)
 .exact wpList_append_own_at _ lF s x t ho base e i z size bytes ht hi hz fh O2 dA hsz v n xs hs A0 ad m c news hx hl hc h1 BU aV Z0 fun v' w' h1 h2 h3 _=>h v' w' h1 h2 fun hv e=>hv (h3.1 e).1
def kU (g off k:Nat):(⟨g,off,none⟩:Addr).add k=⟨g,off+k,none⟩:=addr_add g off k
def A2 (h:w.ownsRow b e size v n xs):∃ a c,v = sL a n c/\n<=c/\c<=maxLen/\(a=none->n=0/\c=0)/\(∀ ad,a=some ad->∃ g,ad=⟨g,0,none⟩/\g<w.heap.size):=by
 obtain⟨hl,⟨rfl,rfl⟩|⟨g,cap,cur,rfl,hb,hg,hc,hm,r⟩⟩:=h
 .exact⟨none,0,rfl,nR _,C3 _,fun _=>⟨rfl,rfl⟩,fun _ e=>by cases e⟩
 .exact⟨_,cap,rfl,hc,hm,fun e=>(by cases e),fun ad e=>by cases e;exact⟨g,rfl,M0 hg⟩⟩
def d8 (h:w.ownsRow b e size (sL a n c) n xs){u:Value}(hj:xs[j]?=some u):∃ g,a=some ⟨g,0,none⟩/\g<w.heap.size/\w.cell? (aA g j)=some u:=by
 have hi:=(gI.1 hj).1;obtain⟨hl,⟨h0,h1⟩|⟨g,cap,cur,hv,hb,hg,hc,hm,hs,ht⟩⟩:=h
 .subst h1;simp at hl;subst hl;simp at hi
 .cases hv;refine⟨g,rfl,M0 hg,?_⟩;rw[G0 hg];rw[<- ht,gT] at hj;split at hj
  .simpa using hj
  .cases hj
def wT (h:w.ownsRow b e size v n xs):rx w v n xs:=by
 obtain⟨a,c,rfl,xG,_,h0,h1⟩:=A2 h;refine⟨a,c,rfl,?_⟩;cases a with
 | none =>
  obtain⟨rfl,rfl⟩:=h0 rfl;exact .inl ⟨rfl,rfl,rfl,by have:=h.1;simpa using this⟩
 | some ad =>
  obtain⟨g,rfl,_⟩:=h1 ad rfl;refine .inr ⟨_,rfl,fun j u hj=>?_⟩;obtain⟨g',e',_,hc⟩:=d8 h hj;cases e';rw[kU,o8];exact hc
def jK0 (h:w.ownsRow b e size (sL a n c) n xs)(k:Nat)(hk:k<=n):rx w (sL a k c) k (xs.take (k*size)):=by
 obtain⟨a',c',e1,xG,_,h0,h1⟩:=A2 h;cases e1;refine⟨a,c,rfl,?_⟩;cases a with
 | none =>
  obtain⟨rfl,rfl⟩:=h0 rfl;obtain rfl:k=0:=oM
  exact .inl ⟨rfl,rfl,rfl,by simp⟩
 | some ad =>
  obtain⟨g,rfl,_⟩:=h1 ad rfl;refine .inr ⟨_,rfl,fun j u hj=>?_⟩;rw[gT] at hj;split at hj
  .obtain⟨g',e',_,hc⟩:=d8 h hj;cases e';rw[kU,o8];exact hc
  .cases hj
def gg0 (h:w.ownsRow b e size (sL a n c) n xs)(k:Nat)(hk:k<=n):rx w (.slice (if c=k then a else a.map (·.add (k*size))) (n-k) (c-k)) (n-k) (xs.drop (k*size)):=by
 obtain⟨a',c',e1,xG,_,h0,h1⟩:=A2 h;cases e1;refine⟨_,_,rfl,?_⟩;cases a with
 | none =>
  obtain⟨rfl,rfl⟩:=h0 rfl;have hx:xs=[]:=by have:=h.1;simpa using this
  exact .inl ⟨by simp,oM,oM,by simp[hx]⟩
 | some ad =>
  obtain⟨g,rfl,_⟩:=h1 ad rfl;by_cases hck:c=k
  .rw[if_pos hck];have hn:n=k:=by omega
   have hd:xs.drop (k*size)=[]:=Qg (by rw[h.1,hn];exact nR _);exact .inr ⟨_,rfl,fun j u hj=>by rw[hd] at hj;simp at hj⟩
  .rw[if_neg hck];refine .inr ⟨_,rfl,fun j u hj=>?_⟩;rw[jJ] at hj;obtain⟨g',e',_,hc⟩:=d8 h hj;cases e';show w.cell? (((⟨g,0,none⟩:Addr).add (k*size)).add j)=some u;rw[kU,o8,kU];exact hc
def Oq (t size:Nat)(hu:prog.underlying t=some (.slice (prog.elem t)))(hs:∀ W,(sizeOf (prog.elem t)).run prog W = .ok size W)(a:Option Addr)(n c m:Nat)(h:m<=c)(W:w9):(Instr.slice t (sL a n c) none (some (iI m)) none).run prog W = .ok (sL a m c) W:=by
 rw[run_slice_h W t a n c hu .i64 m oM oM];rw[hs];simp only[Result.andThen_ok,sliced,jK,uk,Nat.sub_zero];cases a with
 | none=>simp
 | some a=>simp[Addr.add]
def Bu (t size:Nat)(hu:prog.underlying t=some (.slice (prog.elem t)))(hs:∀ W,(sizeOf (prog.elem t)).run prog W = .ok size W)(a:Option Addr)(n c m:Nat)(h:m<=n)(W:w9):(Instr.slice t (sL a n c) (some (iI m)) none none).run prog W = .ok (.slice (if c=m then a else a.map (·.add (m*size))) (n-m) (c-m)) W:=by
 rw[run_slice_l W t a n c hu .i64 m oM oM];rw[hs];simp only[Result.andThen_ok,sliced,jK]
def Bz (A0:w.ownsRow base e size v n xs)(hg:w.grownBy w' v.ownBlock):Fr (fun b=>base<=b) w w':=
 ⟨hg.os,hg.tape,hg.output,hg.size,fun b hb hn=>hg.block b hb fun e=>hn (A0.lt b e.symm).1⟩
def Zg (a:Option Addr)(n c m:Nat)(h:m<=c)(W:w9):(Instr.slice 52 (sL a n c) none (some (iI m)) none).run prog W = .ok (sL a m c) W:=Oq 52 1 kF (fun W=>by kernel_rfl) a n c m h W
def Yo (a:Option Addr)(n c m:Nat)(h:m<=n)(W:w9):(Instr.slice 52 (sL a n c) (some (iI m)) none none).run prog W = .ok (.slice (if c=m then a else a.map (·.add (m*1))) (n-m) (c-m)) W:=Bu 52 1 kF (fun W=>by kernel_rfl) a n c m h W
def oN (h:w.ownsRow b e size v n xs)(F:Fq w w'):w'.ownsRow b e size v n xs:=K3 h F fun _ _ _ h=>h
def BL {B:P0}(h:w.ownsRow b e size v n xs)(he:e ∉ aR)(F:D0 B w w'):w'.ownsRow b e size v n xs:=
 K3 h F fun g c hg hs=>he (hs.2.1 c e _ hg)
def own_base (h:w.ownsRow b e size v n xs):w.ownsRow 0 e size v n xs:=by
 obtain⟨hl,h0|⟨g,cap,cur,hv,hb,r⟩⟩:=h
 .exact⟨hl,.inl h0⟩
 .exact⟨hl,.inr ⟨g,cap,cur,hv,C3 _,r⟩⟩
def QT (bf:Nat)(D:Dev)(w1:w9)(k:Nat)(wr:w9):Prop:=
 (∃ l ck,wr.heap[bf]?=some (.map (ents l) ck)/\(keys l).Nodup/\∀ j,uW wr D.size (Sg.look l j) (BP D.fast (D.loose.take k) j))/\Fr (fun b=>b=bf) w1 wr
def _root_.Go.Sg.uW.fr {S:Nat->Prop}{v:Option Value}{bs:Option (List Int)}(h:uW w size v bs)(F:Fr S w w')(h5:∀ g c,w.heap[g]?=some (.cells c 5)->¬ S g):uW w' size v bs:=by
 cases v with
 | none=>cases bs with
  | none=>trivial
  | some b=>exact h.elim
 | some v=>cases bs with
  | none=>exact h.elim
  | some b =>
   obtain⟨g,off,cap,e,hb,hc⟩:=h;exact⟨g,off,cap,e,hb.fr F h5,hc⟩
variable {D:Dev}
def uQ0 {w2:w9}{k:Nat}{l:List Z4}{ck:Nat}(hl:wr.heap[bf]?=some (.map (ents l) ck))(hn:(keys l).Nodup)(hf:∀ j,uW wr D.size (Sg.look l j) (BP D.fast (D.loose.take k) j))(F1:Fr (fun b=>b=bf) w1 wr)
  {at_:Int} (hk:D.loose[k]?=some (at_,bs)) {ca:Option Addr} {cc:Nat} (hb:T0 w2 ca D.size cc bs) (hcc:D.size<=cc) (hz:0<D.size) (F:Fq wr w2) :
  QT bf D w1 (k+1) (w2.putObj bf (.map (ents (Sg.put l at_ (sL ca D.size cc) ck)) (bump l at_ ck))):=by
 have A8:=F.heap hl id;refine⟨⟨_,_,wK _ _ _ (M0 A8),ED hn _ _ _,fun j=>?_⟩,?_⟩
 .have F2:Fr (fun b=>b=bf) w2 (w2.putObj bf (.map (ents (Sg.put l at_ (sL ca D.size cc) ck)) (bump l at_ ck))):=(Fr.refl (fun b=>b=bf) _).putObj (fun _=>rfl) _;have h5:∀ g c,w2.heap[g]?=some (.cells c 5)->¬ g=bf:=fun g c hg e=>by rw[e,A8] at hg;cases hg
  have et:D.loose.take (k+1)=D.loose.take k++[(at_,bs)]:=by rw[ea,hk];rfl
  rw[IC,et,gl0,ux];by_cases hj:at_=j
  .subst hj;rw[if_pos rfl,if_pos rfl];have P4:=hb.fr F2 h5;rcases hb.at_ with⟨_,h0,_⟩|⟨b,off,cs,rfl,_⟩
   .omega
   .exact⟨b,off,cc,rfl,P4,hcc⟩
  .rw[if_neg hj,if_neg fun e=>hj e.symm];exact ((hf j).fr F fun _ _ _ h=>h).fr F2 h5
 .exact (F1.trans F nE).putObj (fun _=>rfl) _
def Ze {ws:List Wr}(h:w.ownsRow base 196 2 (sL a ws.length c) ws.length (ws.flatMap Wr.cells)){x:Wr}(hx:ws[j]?=some x) :
  ∃ g,a=some ⟨g,0,none⟩/\g<w.heap.size/\w.cell? (aA g (j*2))=some (iI x.at_)/\w.cell? (aA g (j*2+1))=some (sL x.la x.ll x.lc):=by
 obtain⟨k0,k1⟩:=pD0 ws hx;rw[dU] at k0 k1;obtain⟨g,e,hg,h1⟩:=d8 h k0;obtain⟨g',e',_,h2⟩:=d8 h k1;rw[e] at e';cases e';exact⟨g,e,hg,h1,h2⟩
def CE0 (base d bf bq:Nat)(D:Dev)(w:w9)(e:Ending)(w':w9):Prop:=
 (D.act.down=true/\e = rT (iI 4)/\Q4 w' base d bf bq D.act/\Fr (fun b=>b=d) w w') \/
 (D.act.down=false/\e = rT (iI 0)/\Q4 w' base d bf bq D.synced/\Fr (fun b=>b=d\/b=bf) w w')
def xs0 (h:Q4 w base d bf bq D){lv:Value}(hd:w.heap[d]?=some (.cells (uw D bf bq lv) 151))(hl:Qa w base lv D.loose)(av:w1.heap[d]?=some (.cells (uw D.act bf bq lv) 151))(F1:Fr (fun b=>b=d) w w1)(hS:QT bf D w1 D.loose.length wr) :
  Q4 (wr.setCell (aA d 3) (sL none 0 0)) base d bf bq D.synced/\Fr (fun b=>b=d\/b=bf) w (wr.setCell (aA d 3) (sL none 0 0)):=by
 have h1:=XI h hd hl av F1;obtain⟨⟨l,ck,hf,U9,U8⟩,F2⟩:=hS;obtain⟨l0,If,qY,_⟩:=h1.fast;have ndf:¬ d=bf:=fun e=>by rw[<- e,av] at qY;cases qY
 have hdr:=F2.heap av ndf;have F3:Fr (fun b=>b=d) wr (wr.setCell (aA d 3) (sL none 0 0)):=(Fr.refl (fun b=>b=d) _).setCell (a:=⟨d,3,none⟩) (fun _=>rfl) _;have J7:Fr (fun b=>b=d\/b=bf) w1 (wr.setCell (aA d 3) (sL none 0 0)):=(F2.mono fun _ _ h=>.inr h).trans F3 fun _ _ h=>.inl h;have n1:∀ g c t,t≠151->w1.heap[g]?=some (.cells c t)->¬ (g=d\/g=bf):=fun g c t ht hg e=>by
  rcases e with e|e
  .rw[e,av] at hg;cases hg;exact ht rfl
  .rw[e,qY] at hg;cases hg
 obtain⟨l',js,hq,ah,jg,fN⟩:=h1.past;refine⟨⟨⟨sL none 0 0,?_,[],World.ownsRow_nil _ _ _ _,rfl,fun i x y hx _=>by simp at hx⟩,⟨l,ck,?_,U9,fun j=>?_⟩,⟨l',js,?_,ah,fun e he=>?_,fN⟩,h1.ge,h1.ne,h1.rg⟩,(F1.mono fun _ _ h=>.inl h).trans J7 nI⟩
 .rw[hsc _ _ _ _ hdr];rfl
 .exact F3.heap hf fun e=>ndf e.symm
 .have:=U8 j;rw[List.take_length] at this;exact this.fr F3 (fun g c hg e=>by rw[e,hdr] at hg;cases hg)
 .exact J7.heap hq (fun e=>by
   rcases e with e|e
   .rw[e,av] at hq;cases hq
   .exact h1.ne e.symm)
 .exact kY.fr (jg e he) J7 (fun g c hg=>n1 g c 22 dC hg) fun g c hg=>n1 g c 5 dC hg
def zC0 (h:Q4 w base d bf bq D)(A4:D.down=false)(Q7:D.acts<=1000000)(mJ:D.armed<=9223372036854775807)(B5:D.loose.length<=100000)(hlen:∀ y ∈ D.loose,y.2.length=D.size) :
  cP 41 #[pO d] w (CE0 base d bf bq D w):=by
 obtain⟨lv,hd,hl⟩:=h.dc;have hz:=h.rg.2;have c7:=G0 hd 7;simp[A4] at c7;have oG:=hid (xS0 (lv:=lv) hd Q7 mJ);have H:=hi2 h (aI hd hl);have lH:∃ a c,lv = sL a D.loose.length c:=by
  obtain⟨ws,A0,bZ,X7⟩:=hl;rw[<- bZ];obtain⟨_,⟨h1,h2⟩|⟨g,cap,cur,h1,_⟩⟩:=A0
  .rw[h2];exact⟨_,_,h1⟩
  .exact⟨_,_,h1⟩
 obtain⟨va,vc,rfl⟩:=lH;obtain⟨n,hn⟩:=eX D.loose.length
 have pP:n<=100000:=oM
 have HN:=hid hn;have HL:=hid hlen;have ld:=M0 hd;clear h hd hl hlen hn B5;cases hdn:D.act.down with
 | true =>
  have GD:=hid hdn;rw[hdn] at oG;clear hdn;go_enter func41,ntmps41;go_wp2_with fail
  refine oG.mono ?_;rintro e w1 ⟨rfl,av,F1⟩;have H1:=hi2 av F1;clear av F1;go_wp2_with fail
  go_ret;exact .inl ⟨GD.o,rfl,XI H.1 H.2.1 H.2.2 H1.1 H1.2,H1.2⟩
 | false =>
  have GD:=hid hdn;rw[hdn] at oG;clear hdn;go_enter func41,ntmps41;go_wp2_with fail
  refine oG.mono ?_;rintro e w1 ⟨rfl,av,F1⟩;have H1:=hi2 av F1;have c3:=G0 av 3;simp at c3;rw[HN] at c3;have ld1:=M0 av;obtain⟨ws,A0,bZ,X7⟩:=H.2.2;have nd:∀ g c t,t≠151->w.heap[g]?=some (.cells c t)->¬ g=d:=fun g c t ht hg e=>by rw[e,H.2.1] at hg;cases hg;exact ht rfl
  obtain⟨l0,If,qY,JS,JU⟩:=H.1.fast;have hnf:¬ bf=d:=fun e=>by rw[e,H.2.1] at qY;cases qY
  have iM:QT bf D w1 0 w1:=⟨⟨l0,If,F1.heap qY hnf,JS,fun j=>(JU j).fr F1 fun g c hg=>nd g c _ dC hg⟩,fR⟩;have HOW:=hi2 (K3 A0 F1 fun g c hg=>nd g c _ dC hg) (aI bZ fun i x y hx hy=>(⟨(X7 i x y hx hy).1,(X7 i x y hx hy).2.1.fr F1 fun g c hg=>nd g c _ dC hg,(X7 i x y hx hy).2.2⟩:x.at_=y.1/\(T0 w1 x.la x.ll x.lc y.2/\x.ll<=x.lc)));have yF:=hid (F1.heap qY hnf);have yL:=hid iM;clear av F1 A0 bZ X7 qY JS JU iM nd c7;go_wp2_with fail
  go_loopw [22] (fun i wr=>∃ k:Nat,k<=n/\i = iI k/\QT bf D w1 k wr) fun i _=>n-(intOf i).toNat
  case atStart=>exact⟨0,C3 _,rfl,yL.o⟩
  case round =>
   obtain⟨k,hk,rfl,hS⟩:=hrel;have nc:∀ g c t,w1.heap[g]?=some (.cells c t)->¬ g=bf:=fun g c t hg e=>by rw[e,yF] at hg;cases hg
   by_cases hlt:k<n
   .have hdk:decide ((k:Int)<(n:Int))=true:=sO;have cF:(k:Int)<(n:Int):=oM;obtain⟨⟨l,ck,hl,U9,U8⟩,FS⟩:=hS;obtain⟨x,hx⟩:∃ x,ws[k]?=some x:=⟨_,gE (by rw[HOW.2.1,HN.o];exact hlt)⟩
    obtain⟨⟨ya,yb⟩,hy⟩:∃ y,D.loose[k]?=some y:=⟨_,gE (by rw[HN.o];exact hlt)⟩
    obtain⟨hxa,dR,Fy⟩:=HOW.2.2 k x (ya,yb) hx hy;have O9:wr.ownsRow base 196 2 (sL va ws.length vc) ws.length (ws.flatMap Wr.cells):=by
     have:=K3 HOW.1 FS fun g c hg=>nc g c _ hg;rw[HOW.2.1];rw[HOW.2.1] at this;exact this
    obtain⟨g,rfl,hg,u0,u1⟩:=Ze O9 hx;have kJ:yb.length=D.size:=HL.o _ (gM hy);have dS:x.ll=D.size:=(by rw[<- dR.len];exact kJ);simp only at hxa;rw[hxa] at u0;rw[dS] at u1 dR Fy;obtain⟨W,hW⟩:=eX (wr.alloc (.cells #[iI ya,sL x.la D.size x.lc] 196))
    have bW:W.heap[wr.heap.size]?=some (.cells #[iI ya,sL x.la D.size x.lc] 196):=(fB hW);have FW:Fq wr W:=(by rw[<- hW];exact fR.alloc _);have JM:W.heap[d]?=some (.cells (uw D.act bf bq (sL (aP g 0) D.loose.length vc)) 151):=FW.heap (FS.heap H1.1 (nc _ _ _ H1.1)) id;have hlW:=FW.heap hl id;have HC:=hid (fun V (F:Fq W V)=>show (V.cell? wr=some (iI ya)/\V.cell? (aA wr 1)=some (sL x.la D.size x.lc))/\V.cell? (aA d 2)=some (.map (some bf))/\(V.heap[bf]?=some (.map (ents l) ck)/\wr.heap.size<V.heap.size/\d<V) by
     obtain⟨t0,t1,tz,tl⟩:=cells2 (F.heap bW id);have hdV:=F.heap JM id;exact⟨⟨t0,t1⟩,by simpa using G0 hdV 2,F.heap hlW id,tl,M0 hdV⟩)
    have tW:T0 W x.la D.size x.lc yb:=(dR.fr FS fun g c hg=>nc g c _ hg).fr FW fun _ _ _ h=>h;have oK:=hid (fun V (F:Fq W V)=>BF (tW.fr F fun _ _ _ h=>h).slb (show D.size<=65536 by omega));have Ev:=hid fun (V:w9) (hV:V.heap[bf]?=some (.map (ents l) ck)) (v:Value)=>Bv (P:=prog) (T:=147) underlying147 underlying3 hV ya v;have uM:=hi2 hl (aI U9 (aI U8 (aI FS (aI hy FW))));have HW:=hid hW;clear hl U9 U8 FS hx hy hxa dR Fy O9 kJ dS hW bW FW JM hlW tW nc;go_upto_region 8 with fail
    rw[HW];obtain⟨⟨t0,t1⟩,t2,t3,tl1,MA⟩:=HC.o _ fR;have ri:=Ev.o _ t3;have FG:Fq W W.drew:=fR.drew;clear u0 u1;go_region_law (((try go_simp);go_at_call 83;refine (oK _ FG).mono ?_;rintro e V1 ⟨ca,cc,rfl,⟨E5,hcc⟩,G1⟩;have FG:=FG.trans G1 nI;obtain⟨⟨t0,t1⟩,t2,t3,tl1,MA⟩:=HC.o _ FG;have ri:=Ev.o _ t3;have I3:=hi2 E5 (aI hcc FG);clear E5 hcc G1))
    all_goals
     go_wp2_with fail
     go_roundw;case rel =>
      obtain⟨hl,U9,U8,FS,hy,FW⟩:=uM.o;obtain⟨E5,hcc,FG⟩:=I3.o;exact⟨k+1,hlt,by go_num,uQ0 hl U9 U8 FS hy E5 hcc oM (FW.trans FG nI)⟩
     case measure=>exact wM
   .obtain rfl:k=n:=by omega
    have hdk:decide ((k:Int)<(k:Int))=false:=sP;have uM:=hid hS;have hdr:=hS.2.heap H1.1 (nc _ _ _ H1.1);have ZK:=hid hdr;have z:=fun o=>X2 hdr o
    have ldr:=M0 hdr;have Ti:=G0 hdr 3;simp at Ti;clear hS hdr;go_wp2_with fail
    go_ret;obtain⟨uX,F'⟩:=xs0 H.1 H.2.1 H.2.2 H1.1 H1.2 (by rw[HN.o];exact uM.o);exact .inr ⟨GD.o,rfl,uX,F'⟩
end
section
open Go.RowKit Go.Sg Go.Sg.Bits Go.Sg.r4 CP SF
variable {w w':w9}{B:P0}{x:T3}{a:Bool}{N:Nat}
def X1.Xm (h:X1 w B x)(F:Fr (fun b=>b=B.d\/b=B.bf) w w'){D:Dev}(hD:Q4 w' B.base B.d B.bf B.bq D)(e1:D.C0=x.dev.C0)(e2:D.size=x.dev.size):X1 w' B { x with dev:=D }/\D0 B w w':=by
 have FR:eI B [.d,.bf] w w':=F.mono (fun b _ hs=>hs.elim (fun e=>⟨.d,by simp,e⟩) fun e=>⟨.bf,by simp,e⟩);have S:=h.stays FR;have C8:=h.rg;exact⟨⟨S.s dC,hD,S.bits dC dC,S.fr dC,S.dy dC,S.de dC,S.mem dC dC dC,S.load,h.ne,h.ge,⟨C8.1,C8.2.1,C8.2.2.1,by rw[e1];exact C8.2.2.2.1,by rw[e2];exact C8.2.2.2.2⟩,h.inr⟩,h.T1 FR⟩
variable {P:J2}
def Af0 {c:Cont}(hi:Is w x c P a N)(hdn:x.dev.act.down=true)(hD:Q4 w' B.base B.d B.bf B.bq x.dev.act):C5 w' B (x.cs c) P (N+1):=by
 refine⟨x.dev.act,hD,⟨Qt hi.dev.acts,Qn hi.dev.many,hi.dev.len,hi.dev.cu,?_,fun h=>(by cases h),hi.dev.jY⟩,hdn,rfl,rfl⟩;show x.dev.armed-1<=_;have:=hi.dev.armed;omega
def CD0 (l:Nat)(B:P0)(y:Cs)(P:J2)(a:Bool)(N:Nat)(w:w9)(e:Ending)(w':w9):Prop:=
 D0 B w w'/\((e = rT (iI 0)/\nH l w' B y P a (N+1))\/(e = rT (iI 4)/\a=true/\C5 w' B y P (N+1)))
def BF0 {y:Cs}(h:nH 1 w B y P a N)(hN:N+1<=90000):cP 41 #[pO (aP B.d 0)] w (CD0 2 B y P a N w):=by
 obtain⟨⟨x,c,hS,rfl,hi,B6,-⟩,hT,hb⟩:=h;have hfew:=hi.few;refine (zC0 hS.dev hi.down (nT hi.dev.acts oM) hi.dev.armed (nT hi.dev.many oM) hi.dev.len).mono ?_;rintro e w' (⟨hdn,rfl,hD,F⟩|⟨hdn,rfl,hD,F⟩)
 .obtain⟨K8,FB⟩:=hS.Xm (F.mono fun _ _ h=>.inl h) hD rfl rfl;refine⟨FB,.inr ⟨rfl,?_,Af0 hi hdn hD⟩⟩;cases a with
  | true=>rfl
  | false=>rw[Dev.XN hi.down (hi.dev.calm rfl)] at hdn;cases hdn
 .obtain⟨K8,FB⟩:=hS.Xm F hD rfl rfl;have hh:=hi.holds.T1 FB;exact⟨FB,.inl ⟨rfl,⟨⟨_,c,K8,rfl,⟨hdn,hi.dev.synced,⟨hh.ok,fun k q hq=>(by
   obtain⟨s0,b0,a1,a2,a3,a4,a5⟩:=hh.mem k q hq;exact⟨s0,b0,a1,a2,a3,a4,fun hd=>by rw[show ({ x with dev:=x.dev.synced }:T3).dev.sec _=x.dev.sec _ from Dev.jA0 _ _];exact a5 hd⟩),fun k st bs hk hm=>by
   rw[show ({ x with dev:=x.dev.synced }:T3).dev.sec _=x.dev.sec _ from Dev.jA0 _ _];exact hh.dev k st bs hk hm⟩,hi.rq,hi.apart,hN⟩,fun _=>B6 oM,fun _=>rfl⟩,hT.fr FB fun h=>oM,hb⟩⟩⟩
