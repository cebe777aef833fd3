/- A pack of texts. Conditions: those that each names. -/
import Derived.Test.YtgdhaaokolfdoaaGreatDoorNAC
import Derived.Deep.RegionHeld3
set_option maxHeartbeats 16000000
set_option linter.all false
namespace Go.Sg
open Go.RowKit
structure wH (w0 w:w9)(r bx:Nat)(bs:List Int)(k p s:Int)(l:Value):Prop where
 x:w.heap[bx]?=some (.cells #[iI k,iI p,iI s,l] 166)
 rd:cA w r bs false
 f:Fq w0 w
 le:w0<=r/\w0<=bx
variable {w w' w0:w9}{bx r:Nat}{bs:List Int}{k p s:Int}{l:Value}
def wH.ne (h:wH w0 w r bx bs k p s l):bx≠r:=by
 intro e;obtain⟨a,c,hr,_⟩:=h.rd.ex;rw[<- e,h.x] at hr;cases hr
def wH.call {bs':List Int}(h:wH w0 w r bx bs k p s l)(F:Fr (fun b=>b=r) w w')(hr:cA w' r bs' false):wH w0 w' r bx bs' k p s l:=
 ⟨F.heap h.x h.ne,hr,h.f.trans (S':=fun b=>b=r) F (fun b hb e=>by have:=h.le.1;omega),h.le⟩
def cA.fr {S:Nat->Prop}{bad:Bool}(h:cA w r bs bad)(F:Fr S w w')(h1:¬ S r)(h2:∀ b c,w.heap[b]?=some (.cells c 5)->¬ S b):cA w' r bs bad:=by
 obtain⟨⟨a,c,hr,hb,hc⟩,hs⟩:=h;exact⟨⟨a,c,F.heap hr h1,hb.fr F h2,hc⟩,hs⟩
def wH.set (h:wH w0 w r bx bs k p s l)(o:Nat)(v:Value){k' p' s':Int}{l':Value}
  (he:(#[iI k,iI p,iI s,l]:Array Value).setIfInBounds o v=#[iI k',iI p',iI s',l']):wH w0 (w.setCell (aA bx o) v) r bx bs k' p' s' l':=by
 have F:Fr (fun b=>b=bx) w (w.setCell (aA bx o) v):=(Fr.refl (fun b=>b=bx) _).setCell (a:=⟨bx,o,none⟩) (fun _=>rfl) _;refine⟨?_,h.rd.fr F (fun e=>h.ne e.symm) (fun b c hc e=>by rw[e,h.x] at hc;cases hc),h.f.trans (S':=fun b=>b=bx) F (fun b hb e=>by have:=h.le.2;omega),h.le⟩;rw[hsc _ _ _ _ h.x,he]
end Go.Sg
namespace Go.Proofs.YtgdhaaokolfdoaaGreatDoor
open Tryz
section
open Go.RowKit Go.Sg
def Bw0 {w:w9}{r:Nat}{bs:List Int}{bad:Bool}(h:cA w r bs bad):cP 218 #[pO r] w fun e w'=>e = rT (bO bad)/\w=w':=by
 obtain⟨⟨a,c,hr,hb,hc⟩,hs⟩:=h;have c1:=G0 hr 1;simp at c1;clear hr hb hc hs;go_enter func218,ntmps218;go_wp2
 go_ret;exact⟨rfl,rfl⟩
end
section
open Go.RowKit Go.Sg Go.Sg.Bits CP
structure SC (w:w9)(B:P0)(x:T3):Prop where
 c0:w.cell? (aA B.s 0)=some (pO (aP B.d 0))
 c9:w.cell? (aA B.s 9)=some (iI x.first)
 c10:w.cell? (aA B.s 10)=some (iI x.pages)
 c11:w.cell? (aA B.s 11)=some (iI x.room)
 c12:w.cell? (aA B.s 12)=some (iI x.gen)
 c13:w.cell? (aA B.s 13)=some (pO (aP B.bs 0))
 c14:w.cell? (aA B.s 14)=some (.map (some B.fr))
 c15:w.cell? (aA B.s 15)=some (.map (some B.dy))
 c16:w.cell? (aA B.s 16)=some (.map (some B.de))
 c17:w.cell? (aA B.s 17)=some (pO (aP B.bc 0))
 z:∀ o,w.frozen? ⟨B.s,o,none⟩=false
 lt:B.s<w.heap.size
def X1.sc {w:w9}{B:P0}{x:T3}(h:X1 w B x):SC w B x:=
 ⟨by simpa using G0 h.s 0,by simpa using G0 h.s 9,by simpa using G0 h.s 10,by simpa using G0 h.s 11,by simpa using G0 h.s 12,by simpa using G0 h.s 13,
  by simpa using G0 h.s 14,by simpa using G0 h.s 15,by simpa using G0 h.s 16,by simpa using G0 h.s 17,fun o=>X2 h.s o,M0 h.s⟩
namespace SF
variable {w:w9}{B:P0}{x:T3}
def MB (h:X1 w B x)(p st:Int)(h0:0<=p)(h1:p<x.pages) :
  cP 85 #[B.ptr,.agg #[iI p,iI st]] w fun e w'=>e = rT (iI 0)/\Fq w w':=by
 have c10:=h.sc.c10;have l:=h.sc.lt;clear h;go_enter func85,ntmps85;go_wp2
 go_quiet (fail)
 go_wp2
 go_ret;exact⟨rfl,(fR.alloc _).drewN _⟩
def Bl0 (h:X1 w B x):cP 31 #[B.ptr] w fun e w'=>e = rT (iI x.gen)/\w=w':=by
 have c:=h.sc.c12;clear h;go_enter func31,ntmps31;go_wp2
 go_ret;exact⟨rfl,rfl⟩
end SF
end
section
open Go.RowKit Go.Sg Go.Sg.Bits Go.Sg.r4 CP
namespace SF
def MG {B:P0}{b:Nat}(h:b=B.bc\/b=B.bp\/b=B.bm):∃ r ∈ [r8.bc,r8.bp,r8.bm],b=B.at_ r:=by
 rcases h with rfl|rfl|rfl
 .exact⟨.bc,by simp,rfl⟩
 .exact⟨.bp,by simp,rfl⟩
 .exact⟨.bm,by simp,rfl⟩
def keep_any {R:Ending->World->Prop}{w:w9}{B:P0}{x:T3}(h:X1 w B x)(n:Int)(p:Pg)
  (h0:∀ W g,nJ x.mem x.places n g->(gV g).dirty=false->cR W B.bc B.bp B.bm x.places (aQ x.mem n p g)->eI B [.bc,.bp,.bm] w W->R (rT (iI 0)) W)
  (h1:∀ W g,nJ x.mem x.places n (some g)->g.2.dirty=true->cR W B.bc B.bp B.bm x.places (aQ x.mem n p (some g))->eI B [.bc,.bp,.bm] w W->cP 110 #[B.ptr,iI g.1,g.2.val] W fun e W'=>∃ err:Int,e = rT (iI err)/\R e W') :
  cP 82 #[B.ptr,iI n,p.val] w R:=by
 obtain⟨st,la,ll,lc,di⟩:=p;have c17:=h.sc.c17;have l:=h.sc.lt;obtain⟨w1,I0⟩:=eX (w.alloc (.cells #[iI st,sL la ll lc,bO di] 162))
 have F1:=fA I0
 have b1:=fB I0
 obtain⟨d0,d1,d2,dz,dl⟩:=cells3 b1;have Ic:=(F1.cell (p:=⟨B.s,17,none⟩) l id).trans c17;have l':=E4 l F1.size;have HP:=hid (fun W (F:Fq w1 W)=>(mY0 (h.mem.fr (F1.trans F nI) id id id) n ⟨st,la,ll,lc,di⟩).mono
  (fun (e:Ending) W' ⟨g,hg,he,hm,F'⟩=>(⟨g,hg,he,hm,Fr.trans (S:=fun b=>b=B.bc\/b=B.bp\/b=B.bm) (S':=fun b=>b=B.bc\/b=B.bp\/b=B.bm) (F.mono nE) F' nI,F'⟩ :
   ∃ g,nJ x.mem x.places n g/\e=rT (tU #[iI (gK g),(gV g).val,bO g.isSome])/\cR W' B.bc B.bp B.bm x.places (aQ x.mem n ⟨st,la,ll,lc,di⟩ g)/\Fr (fun b=>b=B.bc\/b=B.bp\/b=B.bm) w1 W'/\Fr (fun b=>b=B.bc\/b=B.bp\/b=B.bm) W W')))
 have nS:¬ (B.s=B.bc\/B.s=B.bp\/B.s=B.bm):=by
  have a1:=h.o (L:=[.bc,.bp,.bm]) (r:=.s) dC;simpa[P0.at_] using a1
 have nW:¬ (w.heap.size=B.bc\/w.heap.size=B.bp\/w.heap.size=B.bm):=by
  have:=h.mem.xW;omega
 have NX:=hid (show ¬ (w1.heap.size=B.bc\/w1.heap.size=B.bp\/w1.heap.size=B.bm) by have:=h.mem.xW;omega);have NS:=hid nS;have NW:=hid nW;clear nS nW;have m1:¬ w1.heap.size=B.s:=oM
 have m2:¬ w1.heap.size=w.heap.size:=oM
 have HW:=hid I0;have H0:=hid h0;have H1:=hid h1;have E1:=hid F1;clear h h0 h1 c17 I0 b1 F1;go_enter func82,ntmps82;go_wp2
 rw[HW];go_region_held3 (fun W=>W.cell? (aA B.s 17)=some (pO (aP B.bc 0))/\W.cell? w=some (iI st)/\W.cell? (aA w 1)=some (sL la ll lc)/\W.cell? (aA w 2)=some (bO di))
  (go_keep)
  ((go_at_call 111;refine (HP _ (by first|exact (fR.alloc _)|exact fR|exact (fR.drew)|exact (fR.alloc _).drew|exact (fR.drew.alloc _))).mono ?_;rintro e w7 ⟨g,hg,rfl,hm,F7,F8⟩;have e0:=fun (i:Nat) (hh:w1.heap.size<_)=>F8.cell (p:=⟨w1,i,none⟩) hh NX.o;have ez:=fun (i:Nat) (hh:w1.heap.size<_)=>World.frozen?_of_block (a:=⟨w1,i,none⟩) (F8.block w1.heap.size hh NX.o);have el:=F8.size;have el7:=F7.size;have m3:¬ w7.heap.size=B.s:=oM;have m4:¬ w7.heap.size=w.heap.size:=oM;have Ic:=(F7.cell (p:=⟨B.s,17,none⟩) l' NS.o).trans Ic;have d0:=(F7.cell (p:=⟨w,0,none⟩) dl NW.o).trans d0;have d1:=(F7.cell (p:=⟨w,1,none⟩) dl NW.o).trans d1;have d2:=(F7.cell (p:=⟨w,2,none⟩) dl NW.o).trans d2;have lX:=hid F7;have HM:=hid hm;have HG:=hid hg;clear F7 hm hg F8))
 all_goals clear m1 m2 m3 m4
 all_goals rcases g with _|⟨gk,⟨gst,ga,gl,gc,gd⟩⟩
 all_goals try simp only[gK,gV,Option.map_none,DL,Option.getD_none,Qq,Option.isSome_none,Option.isSome_some,Pg.zero]
 all_goals have FA:eI B [.bc,.bp,.bm] w w7:=(E1.mono nE).trans lX fun b _ h=>MG h
 all_goals have FA:=hid FA
 .go_wp2
  exact H0 _ none HG rfl (HM.fr ((Fr.refl (fun _=>False) _).alloc _) id id id) (FA.alloc _)
 .cases gd with
  | false =>
   go_wp2
   exact H0 _ _ HG rfl (HM.fr ((Fr.refl (fun _=>False) _).alloc _) id id id) (FA.alloc _)
  | true =>
   go_wp2_with fail
   refine (H1 _ _ HG rfl (HM.fr ((Fr.refl (fun _=>False) _).alloc _) id id id) (FA.alloc _)).mono ?_;rintro e w9 ⟨err,rfl,hR⟩;have HR:=hid hR;clear hR;go_wp2
   exact HR
 .go_wp2
  exact H0 _ none HG rfl (HM.fr (Fr.rt (S:=fun b=>b=w1.heap.size) (b:=w1.heap.size) fR rfl _ _ _) (fun h=>NX (.inl h.symm)) (fun h=>NX (.inr (.inl h.symm))) fun h=>NX (.inr (.inr h.symm))) (Fr.Aj FA oM _ _ _)
 .cases gd with
  | false =>
   go_wp2
   exact H0 _ _ HG rfl (HM.fr (Fr.rt (S:=fun b=>b=w1.heap.size) (b:=w1.heap.size) fR rfl _ _ _) (fun h=>NX (.inl h.symm)) (fun h=>NX (.inr (.inl h.symm))) fun h=>NX (.inr (.inr h.symm))) (Fr.Aj FA oM _ _ _)
  | true =>
   go_wp2_with fail
   refine (H1 _ _ HG rfl (HM.fr (Fr.rt (S:=fun b=>b=w1.heap.size) (b:=w1.heap.size) fR rfl _ _ _) (fun h=>NX (.inl h.symm)) (fun h=>NX (.inr (.inl h.symm))) fun h=>NX (.inr (.inr h.symm))) (Fr.Aj FA oM _ _ _)).mono ?_;rintro e w9 ⟨err,rfl,hR⟩;have HR:=hid hR;clear hR;go_wp2
   exact HR
end SF
variable {W w:w9}{B:P0}{x:T3}
def X1.XT (h:X1 w B x)(F:eI B [.bc,.bp,.bm] w W){m:Int->Option Pg}(hm:cR W B.bc B.bp B.bm x.places m)
  (hl:∀ k p,m k=some p->∃ bs,T0 W p.la p.ll p.lc bs/\bs.length<=x.room):X1 W B { x with mem:=m }:=by
 have S:=h.stays F;exact⟨S.s dC,S.dev dC dC dC,S.bits dC dC,S.fr dC,S.dy dC,S.de dC,hm,hl,h.ne,h.ge,h.rg,h.inr⟩
def WE (h:X1 w B x){L:List r8}(F:eI B L w W){n:Int}{p:Pg}{g:Option (Int × Pg)}(hp:∃ bs,T0 w p.la p.ll p.lc bs/\bs.length<=x.room) :
  ∀ k q,aQ x.mem n p g k=some q->∃ bs,T0 W q.la q.ll q.lc bs/\bs.length<=x.room:=by
 intro k q hq;unfold aQ at hq;split at hq
 .cases hq;obtain⟨bs,hb,hl⟩:=hp;exact⟨bs,h.NK F hb,hl⟩
 .split at hq
  .cases hq
  .obtain⟨bs,hb,hl⟩:=h.load k q hq;exact⟨bs,h.NK F hb,hl⟩
namespace SF
variable {B:P0}{w w':w9}{x:T3}{g:Option (Int × Pg)}{D:Dev}{err:Int}
def oY0 (h:lM w x g D err)(F:D0 B w w'):lM w' x g D err:=by
 cases g with
 | none=>exact h
 | some g =>
  obtain⟨k,q⟩:=g;unfold lM at h ⊢;simp only at h ⊢;split
  .rename_i hd;rw[if_pos hd] at h;obtain⟨bs,hb,he⟩:=h;exact⟨bs,hb.T1 F,he⟩
  .rename_i hd;rw[if_neg hd] at h;exact h
def Io (h:lM w x g D err){k:Nat}(F:Fr (fun b=>b=k) w w'){cs:Array Value}{t:TypeId}(hk:w.heap[k]?=some (.cells cs t))(ht:t≠5):lM w' x g D err:=by
 cases g with
 | none=>exact h
 | some g =>
  obtain⟨k,q⟩:=g;unfold lM at h ⊢;simp only at h ⊢;split
  .rename_i hd;rw[if_pos hd] at h;obtain⟨bs,hb,he⟩:=h;exact⟨bs,hb.M3 F hk ht,he⟩
  .rename_i hd;rw[if_neg hd] at h;exact h
def nx (w:w9)(B:P0)(a:Option Addr)(n c:Nat)(bs:List Int):Prop:=uN w a n c bs/\∀ b off,a=some ⟨b,off,none⟩->n=0\/b<B.base\/kd w b=6
def tk (x:T3)(n:Nat):T3:={ x with taken:=upd x.taken n true,hand:=(n+1) % x.pages,fresh:=aN x.fresh n true }
def AB (err:Int)(n st:Int):Value:=if err=0 then .agg #[iI n,iI st] else .agg #[iI 0,iI 0]
def Xv (B:P0)(x:T3)(bs:List Int)(w:w9)(e:Ending)(w':w9):Prop:=
 ∃ n err g D p,dF x.taken x.pages x.hand n/\e = rT (tU #[AB err n x.gen,iI err])/\nJ x.mem x.places n g/\lM w' x g D err /\
  X1 w' B { tk x n with mem:=aQ x.mem n p g,dev:=D }/\(p.stamp=x.gen/\p.dirty=true/\T0 w' p.la p.ll p.lc bs)/\D0 B w w'
def QK (h:X1 w B x)(hT:Tab w)(TU:0<B.base){la:Option Addr}{ll lc:Nat}{bs:List Int}(T4:nx w B la ll lc bs)(hl:ll<=x.room){j:Nat}(hj:j<x.pages)(P2:x.taken j=false)
  (hk:∀ W p n,dF x.taken x.pages x.hand n->X1 W B (tk x n)->D0 B w W->(∃ bs,T0 W p.la p.ll p.lc bs/\bs.length<=x.room)->cP 82 #[B.ptr,iI n,p.val] W (Xw B (tk x n) n p W)) :
  cP 22 #[B.ptr,sL la ll lc] w (Xv B x bs w):=by
 have c11:=h.sc.c11;have c12:=h.sc.c12;have c13:=h.sc.c13;have c14:=h.sc.c14;have l:=h.sc.lt;have hlen:=T4.1.Y6.len;have mV:=h.rg.1;obtain⟨w1,I0⟩:=eX (w.alloc (.cells #[iI 0,iI 0] 35))
 have F1:=fA I0
 have b1:=fB I0
 have Bo:=hid (uP0 (h.bits.fr F1 id id) (hT.fr F1 id) hj P2);have H:=hid h;have El:=hid T4;have HK:=hid hk;have HW:=hid I0;have E1:=hid F1;have I3:=hid b1;have HL:=hid hlen;clear h hT T4 hk I0 F1 b1 P2 hlen;go_enter func22,ntmps22;go_wp2_with fail
 rw[HW];refine Bo.mono ?_;rintro e w2 ⟨n,hn,rfl,ko,F2⟩;have E7:eI B [.bs,.bw] w w2:=(E1.mono nE).trans F2 (fun b _ h=>by
  rcases h with rfl|rfl
  .exact⟨.bs,by simp,rfl⟩
  .exact⟨.bw,by simp,rfl⟩)
 have Ql:∀ r,w.heap.size≠B.at_ r:=fun r e=>by have:=(H.heaps r).2.2.1;omega
 have L4:=F2.heap I3 (fun h=>by rcases h with h|h;exact Ql .bs h;exact Ql .bw h);have S2:=H.stays E7;have s2:=S2.s dC;obtain⟨lf,ck,qZ,U8⟩:=(S2.fr dC).ex;have e12:w2.cell? (aA B.s 12)=some (iI x.gen):=by simpa using G0 s2 12
 have e14:w2.cell? (aA B.s 14)=some (.map (some B.fr)):=by simpa using G0 s2 14
 have ri:=fun (W:w9) (hW:W.heap[B.fr]?=some (.map (ents lf) ck))=>Bv (P:=prog) (T:=153) underlying153 underlying3 hW n (bO true)
 have bD:=hid L4;have NBX:=hid Ql;clear L4 Ql;have HN:=hid hn;have RB:=hid ko;have RL:=hid E7;have wB:=hid S2;have Hs2:=hid s2;have rI:=hid U8;clear hn ko F2 E7 S2 s2 U8;go_wp2
 obtain⟨w3,K7⟩:=eX (w2.putObj B.fr (.map (ents (put lf n (bO true) ck)) (bump lf n ck)))
 have Z9:Fr (fun b=>b=B.fr) w2 w3:=by rw[<- K7];exact (Fr.refl (fun b=>b=B.fr) _).putObj (fun _=>rfl) _
 have hf3:w3.heap[B.fr]?=some (.map (ents (put lf n (bO true) ck)) (bump lf n ck)):=by rw[<- K7];exact wK _ _ _ (M0 qZ)
 rw[K7];have cN:=hid (Z9.heap bD (NBX.o .fr));have gJ:eI B [.bs,.bw,.fr] w w3:=(RL.mono fun b _ ⟨r,hr,e⟩=>⟨r,by simp at hr ⊢;rcases hr with h|h <;> simp[h],e⟩).trans Z9 (fun b _ h=>⟨.fr,by simp,h⟩);have n1:B.bs≠B.fr:=fun e=>by have:=H.inj (r:=.bs) (r':=.fr) e;cases this
 have n2:B.bw≠B.fr:=fun e=>by have:=H.inj (r:=.bw) (r':=.fr) e;cases this
 have S3:=H.stays gJ;have nn:=HN.1;have T9:X1 w3 B (tk x n):=by
  refine⟨S3.s dC,S3.dev dC dC dC,RB.fr Z9 n1 n2,⟨_,_,hf3,rI.put n⟩,S3.dy dC,S3.de dC,S3.mem dC dC dC,S3.load,H.ne,H.ge,H.rg,?_,H.inr.2⟩;intro k hk;show 0<=k/\k<x.pages;by_cases L8:k=n
  .omega
  .exact H.inr.1 k (by simpa[tk,aN,L8] using hk)
 have e12:w3.cell? (aA B.s 12)=some (iI x.gen):=T9.sc.c12;have X3:uN w3 la ll lc bs:=by
  refine⟨El.1.Y6.frn gJ ?_,El.1.at_⟩;rintro b off e-lI ⟨r,_,rfl⟩;have hh:=H.heaps r;rcases El.2 _ off e with h|h|h
  .omega
  .omega
  .rw[hh.2.2.2] at h;cases r <;> simp[r8.kind] at h
 have HC:=hid (fun W (F:Fq w3 W)=>(BQ (w:=W) ⟨X3.Y6.fr F fun _ _ _ _ h=>h,X3.at_⟩ oM).mono
  (fun (e:Ending) W' ⟨a',c',he,hb,F'⟩=>(⟨a',c',he,hb,F.trans F' nI⟩:∃ a' c',e=rT (sL a' ll c')/\T0 W' a' ll c' bs/\Fq w3 W')))
 have ls:B.s<w3.heap.size:=T9.sc.lt;have jS:=hid T9;have GF:=hid gJ;clear K7 Z9 hf3 ri qZ gJ n1 n2 S3 T9 X3 c11 c12 c13 c14 e14;go_region_held3 (fun W=>W.cell? (aA B.s 12)=some (iI x.gen)) (go_keep)
  (first
   | (go_at_call 83;refine (HC _ (by first|exact fR|exact fR.drew)).mono ?_;rintro e w4 ⟨a',c',rfl,cX,F4⟩;have e12:=(F4.cell (p:=⟨B.s,12,none⟩) ls id).trans e12;have T5:=hid cX;have p8:=hid F4;clear cX F4)
   | (go_at_call 82;refine (HK _ ⟨x.gen,a',ll,c',true⟩ n HN (jS.J0 p8.o) ((H.T1 GF.o).trans (D0.none p8.o)) ⟨bs,T5.o,by rw[HL];exact hl⟩).mono ?_;rintro e w5 ⟨err,g,D,rfl,hg,ho,J5,F5⟩;have e12:w5.cell? (aA B.s 12)=some (iI x.gen):=J5.sc.c12;have H5:=hi2 hg (aI ho (aI J5 F5));clear hg ho J5 F5))
 obtain⟨hg,ho,J5,F5⟩:=H5.o;have A6:=F5.heap (D0.heap (D0.none p8.o) (B:=B) cN dC) dC;obtain⟨f0,f1,fz,fl⟩:=cells2 A6;have c12:w5.cell? (aA B.s 12)=some (iI x.gen):=J5.sc.c12;have l5:=J5.sc.lt;have nb5:¬ w.heap.size=B.s:=oM
 have FF:D0 B w w5:=((H.T1 GF.o).trans (D0.none p8.o)).trans F5;have pH:=T5.T1 F5;have H6:=hi2 hg (aI ho (aI J5 (aI FF (aI pH A6))));clear hg ho J5 F5 A6 FF pH H5;by_cases he:err=0
 .subst he;go_wp2
  refine bodyPost_ret (v:=tU #[.agg #[iI n,iI x.gen],iI 0]) sR rfl ?_;obtain⟨hg,ho,J5,FF,pH,A6⟩:=H6.o;have FL:Fr (fun b=>b=w.heap.size) w5 ((w5.setCell w (iI n)).setCell (aA w 1) (iI x.gen)):=((Fr.refl (fun b=>b=w.heap.size) _).setCell (a:=⟨w,0,none⟩) (fun _=>rfl) _).setCell (a:=⟨w,1,none⟩) (fun _=>rfl) _;refine⟨n,0,g,D,⟨x.gen,a',ll,c',true⟩,HN.o,rfl,hg,Io ho FL A6 dC,J5.M3 FL A6 dC,⟨rfl,rfl,pH.M3 FL A6 dC⟩,?_⟩;exact (FF.setCell (a:=⟨w,0,none⟩) (fun h=>absurd h (gG _)) _).setCell (a:=⟨w,1,none⟩) (fun h=>absurd h (gG _)) _
 .have tn:(err != 0)=true:=by simpa using he
  go_wp2
  refine bodyPost_ret (v:=tU #[.agg #[iI 0,iI 0],iI err]) sR rfl ?_;obtain⟨hg,ho,J5,FF,pH,A6⟩:=H6.o;have FL:Fr (fun b=>b=w.heap.size) w5 ((w5.setCell w (iI 0)).setCell (aA w 1) (iI 0)):=((Fr.refl (fun b=>b=w.heap.size) _).setCell (a:=⟨w,0,none⟩) (fun _=>rfl) _).setCell (a:=⟨w,1,none⟩) (fun _=>rfl) _;refine⟨n,err,g,D,⟨x.gen,a',ll,c',true⟩,HN.o,by rw[AB,if_neg he],hg,Io ho FL A6 dC,J5.M3 FL A6 dC,⟨rfl,rfl,pH.M3 FL A6 dC⟩,?_⟩;exact (FF.setCell (a:=⟨w,0,none⟩) (fun h=>absurd h (gG _)) _).setCell (a:=⟨w,1,none⟩) (fun h=>absurd h (gG _)) _
end SF
def rV (w:w9):(zeroValue 4).run prog w = .ok (bO false) w:=by kernel_rfl
def My (x:T3)(n:Nat):T3:=
 if x.fresh n=true then { x with fresh:=aN x.fresh n false,taken:=upd x.taken n false,mem:=vP x.mem n none } else { x with dying:=aN x.dying n true }
def X1.qh (h:X1 w B x){r r':r8}(hr:r≠r'):B.at_ r≠B.at_ r':=fun e=>hr (h.inj e)
namespace SF
def qS0 {w:w9}{B:P0}{x:T3}(h:X1 w B x){n:Nat}(hn:n<x.pages)(hf:x.fresh n=false) :
  cP 89 #[B.ptr,iI n] w fun e w'=>e = rT (tU #[])/\X1 w' B (My x n)/\eI B [.dy] w w':=by
 have c14:=h.sc.c14;have c15:=h.sc.c15;obtain⟨lf,cf,qZ,U8⟩:=h.fr.ex;obtain⟨ld,cd,jB,ev⟩:=h.dy.ex;have hl:=yT (P:=prog) (T:=153) false underlying153 underlying3 rV qZ n;rw[U8.at_,hf] at hl;simp at hl;have ri:=Bv (P:=prog) (T:=153) underlying153 underlying3 jB n (bO true);have H:=hid h;have HD:=hid ev;have HM:=hid jB;have HF:=hid hf;clear h qZ U8 ev hf jB;go_enter func89,ntmps89;go_wp2
 refine bodyPost_ret (results_none rfl _ _ _) rfl ?_;have F:eI B [.dy] w (w.putObj B.dy (.map (ents (put ld n (bO true) cd)) (bump ld n cd))):=fR.putObj (fun _=>⟨.dy,by simp,rfl⟩) _;refine⟨rfl,?_,F⟩;have S:=H.stays F;have e:My x n={ x with dying:=aN x.dying n true }:=by rw[My,HF];rfl
 rw[e];refine⟨S.s dC,S.dev dC dC dC,S.bits dC dC,S.fr dC,⟨_,_,wK _ _ _ (M0 HM.o),HD.put n⟩,S.de dC,S.mem dC dC dC,S.load,H.ne,H.ge,H.rg,H.inr.1,?_,H.inr.2.2⟩;intro k hk;show 0<=k/\k<x.pages;by_cases L8:k=n
 .omega
 .exact H.inr.2.1 k (by simpa[aN,L8] using hk)
end SF
