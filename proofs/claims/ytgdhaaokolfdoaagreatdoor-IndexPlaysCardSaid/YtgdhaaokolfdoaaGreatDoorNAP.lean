/- A pack of texts. Conditions: those that each names. -/
import Derived.Test.YtgdhaaokolfdoaaGreatDoorNAO
set_option maxHeartbeats 16000000
set_option maxRecDepth 100000
set_option linter.all false
namespace Go.Proofs.YtgdhaaokolfdoaaGreatDoor
section
open Go.RowKit Go.Sg Go.Sg.Clk Go.Shelf CP
attribute [local go_sem] Oper.semAt_some
theorem qN0 (a:Option Addr)(w:World) :
  Calls Tryz.prog 109 #[.pointer a] w fun e w'=>e = .returned (.func (.func 168) #[] #[.pointer (some ⟨w.heap.size,0,none⟩)])/\w.alloc (.cells #[.pointer a] 23)=w':=by
 go_enter Tryz.func109,Tryz.ntmps109;go_wp2
 go_ret;exact⟨rfl,rfl⟩
abbrev Dty (m:Int->Option Pg):={ p:Int × Pg // m p.1=some p.2/\p.2.dirty=true }
abbrev AH0 {m:Int->Option Pg}(x:Dty m):Array Value:=#[.int .i64 x.1.1,x.1.2.val]
def Pg.clean (q:Pg):Pg:={ q with dirty:=false }
def cleaned (m:Int->Option Pg)(L:List Int):Int->Option Pg:=fun k=>if k ∈ L then (m k).map Pg.clean else m k
def dks {m:Int->Option Pg}(pre:List (Dty m)):List Int:=pre.map (·.1.1)
def zP0 (B:Blk)(m:Int->Option Pg)(n bx:Nat)(pre:List (Dty m))(W:World):Prop:=
 W.heap[bx]?=some (.cells #[B.ptr] 23)/\∃ x,ax0 W B x/\x.places=n/\x.mem=cleaned m (dks pre)
def KpI (A C:World):Prop:=∀ (g:Nat) (c:Array Value) (f:Nat × Nat),A.heap[g]?=some (.cells c 3 f)->C.heap[g]?=some (.cells c 3 f)
def AA0 (m:Int->Option Pg)(xs:List (Dty m)):Prop:=∀ k q,m k=some q->q.dirty=true->k ∈ dks xs
theorem gU0 {β:Type}{Bn:Nat}{J:β->World->Prop}(hJ:AbidesFrom Bn J){s:β}{W W':World}(h:J s W)(F:Fq W W'):J s W':=
 hJ s W W' none h ⟨F.os,F.tape,F.output,F.size,fun b hb _=>F.block b hb id⟩ (fun r e=>by cases e)
variable {A C w:World}{b n:Nat}{v:Value}{ks:List Int}{k:Int}
theorem rk0 (h:A.ownsRow b 3 1 v ks.length (ks.map (Value.int .i64)))(K:KpI A C):C.ownsRow b 3 1 v ks.length (ks.map (Value.int .i64)):=by
 obtain⟨hl,h0|⟨g,cap,cur,hv,hb,hg,r⟩⟩:=h
 ·exact⟨hl,.inl h0⟩
 ·exact⟨hl,.inr ⟨g,cap,cur,hv,hb,K g cur _ hg,r⟩⟩
theorem KpI.fr (F:Fq A C):KpI A C:=fun _ _ _ hg=>F.heap hg id
variable {m:Int->Option Pg}
theorem jR0 {L:List Int}{q:Pg}(h:cleaned m L k=some q)(hd:q.dirty=true):m k=some q/\k ∉ L:=by
 unfold cleaned at h;split at h
 ·cases hm:m k with
  | none=>rw[hm] at h;cases h
  | some p=>rw[hm] at h;simp at h;subst h;cases hd
 ·rename_i hk;exact⟨h,hk⟩
theorem ks0 {a:Option Addr}{c:Nat}(h:w.ownsRow b 3 1 (.slice a n c) ks.length (ks.map (Value.int .i64))){i:Nat}(hk:ks[i]?=some k):n=ks.length/\∃ g,a=some ⟨g,0,none⟩/\w.cell? ⟨g,i,none⟩=some (.int .i64 k):=by
 have hi:=(gI.1 hk).1;obtain⟨hl,⟨_,h1⟩|⟨g,cap,cur,hv,hb,hg,hc,hm,hs,ht⟩⟩:=h
 ·omega
 ·cases hv;refine⟨rfl,g,rfl,?_⟩;rw[coh hg];have h2:(cur.toList.take (ks.length*1))[i]?=some (.int .i64 k):=by rw[ht,gP,hk];rfl
  rw[gT,if_pos oM] at h2;simpa using h2
theorem iK0 (h:w.ownsRow b 3 1 v ks.length (ks.map (Value.int .i64))):∃ a c,v = .slice a ks.length c:=by
 obtain⟨hl,⟨h0,h1⟩|⟨g,cap,cur,hv,r⟩⟩:=h
 ·exact⟨none,0,by rw[h0,h1]⟩
 ·exact⟨_,_,hv⟩
def Bz0 {m:Int->Option Pg}(J:List (Dty m)->World->Prop)(_:Int->Option Pg)(ks:List Int)(ka:Option Addr)(kc b k:Nat)(wr:World):Prop:=
 ∃ pre,J pre wr/\wr.ownsRow b 3 1 (.slice ka ks.length kc) ks.length (ks.map (Value.int .i64))/\(∀ j ∈ dks pre,j ∈ ks.take k)/\pre.length<=k/\∀ j q,m j=some q->q.dirty=true->j ∈ ks.take k->j ∈ dks pre
theorem md0 {B:Blk}{bx:Nat}{I:List (Dty m)->World->Prop}(hn:n<=100000)(hI:∀ pre W,I pre W->zP0 B m n bx pre W) :
  qn0 Fence.wide 9 Tryz.prog 168 #[.pointer (some ⟨bx,0,none⟩)] AH0 I KpI (fun xs=>AA0 m xs/\xs.length<=n) (fun pre=>pre.length<=n) n w:=fun l J Jx W hJI hW hJ _ hY h0=>by
 obtain⟨hbx,x0,hS0,hn0,hm0⟩:=hI _ _ (hJI _ _ h0);have cx:=coh hbx 0;simp at cx;have c17:=hS0.sc.c17;have HK:=hid (ph0 hS0.mem);have H0:=hi2 hbx (aI hS0 (aI hn0 (aI hm0 h0)));clear hbx hS0 hn0 hm0 h0;refine callsIn_of_wp Tryz.func168 rfl trivial ?_ rfl;simp only[Tryz.ntmps168,zA,lC,lz9,Nat.reduceAdd,Nat.reduceSub,lq9,lr9,ly9,ls9,le9,lo9];gi_wp2_with (fail)
 refine (callsIn_wide.2 HK.out).mono ?_;rintro e W1 ⟨v,ks,rfl,hks,hkm,hkn,hkl,F1⟩;obtain⟨ka,kc,rfl⟩:=iK0 hks;have hJ1:=gU0 hJ H0.out.2.2.2.2 F1;have hkl':ks.length<=n:=by rw[<- H0.out.2.2.1];exact hkl
 have HKS:=hi2 hks (aI hkm hkn);have HJ1:=hid hJ1;clear hks hkm hkn hJ1 F1 hkl cx c17 HK;gi_wp2
 gi_loopw [13] (fun i wr=>∃ k:Nat,k<=ks.length/\i = .int .i64 k/\Bz0 J m ks ka kc W.heap.size k wr) (fun i _=>ks.length-(intOf i).toNat)
 case atStart=>exact⟨0,la9 _,rfl,[],HJ1.out,HKS.out.1,(fun j hj=>by cases hj),nR _,fun j q _ _ hj=>by simp at hj⟩
 case round =>
  obtain⟨k,hk,rfl,pre,hJp,hown,hin,hlen,hcov⟩:=hrel;obtain⟨hbx,x,hS,hxn,hxm⟩:=hI _ _ (hJI _ _ hJp);by_cases hlt:k<ks.length
  ·obtain⟨key,hkey⟩:∃ key,ks[k]?=some key:=⟨_,gE hlt⟩
   obtain⟨-,g,rfl,hcell⟩:=ks0 hown hkey;have hnew:key ∉ ks.take k:=fun hm=>by
    obtain⟨j,hj⟩:=lC9.1 hm;rw[gT] at hj;split at hj
    ·rename_i hjk;have:=(mG9 oM HKS.out.2.2).1 (hj.trans hkey.symm);omega
    ·cases hj
   have hnd:key ∉ dks pre:=fun h=>hnew (hin key h)
   obtain⟨q,hq⟩:∃ q,m key=some q:=by
    have h1:=(HKS.out.2.1 key).1 (gM hkey);rw[H0.out.2.2.2.1] at h1;simpa[cleaned,dks,Option.isSome_iff_exists] using h1
   have hxq:x.mem key=some q:=by rw[hxm,cleaned,if_neg hnd];exact hq
   have htk:ks.take (k+1)=ks.take k++[key]:=by rw[lw9,hkey];rfl
   have cx:=coh hbx 0;simp at cx;have c17:=hS.sc.c17;have HL:=hid (pe0 hS.mem key);rw[hxq] at HL;have HR:=hi2 hJp (aI hown (aI hin (aI hcov (aI htk (aI hq hxq)))));clear hbx hS hxn hxm hJp hown hin hcov hnew hnd htk hkey hxq;obtain⟨sta,la,ll,lc,di⟩:=q;gi_wp2_with (fail)
   refine (callsIn_wide.2 HL.out).mono ?_;rintro e w2 ⟨rfl,F2⟩;have hJ2:=gU0 hJ HR.out.1 (F2.alloc (.cells #[.int .i64 sta,.slice la ll lc,.bool di] 162));have hK2:KpI wr (w2.alloc (.cells #[.int .i64 sta,.slice la ll lc,.bool di] 162)):=KpI.fr (F2.alloc _);have H2:=hi2 hJ2 (rk0 HR.out.2.1 hK2);clear F2 hJ2 hK2 cx c17 hcell HL;simp only[nr9,Option.isSome_some];cases di with
   | false =>
    gi_wp2
    go_roundw;case rel =>
     obtain⟨hJp,hown,hin,hcov,htk,hq,hxq⟩:=HR.out;refine⟨k+1,oM,by go_num,pre,H2.out.1,H2.out.2,fun j hj=>?_,oM,fun j q hj hd hjt=>?_⟩
     ·rw[htk];exact lN9 _ (hin j hj)
     ·rw[htk] at hjt;rcases lb9.1 hjt with hjt|hjt
      ·exact hcov j q hj hd hjt
      ·simp at hjt;subst hjt;rw[hq] at hj;cases hj;cases hd
    case measure=>simp[intOf];omega
   | true =>
    obtain⟨fn,tmps,assign,body,hy,hRR⟩:=hY _ ⟨(key,⟨sta,la,ll,lc,true⟩),HR.out.2.2.2.2.2.1,rfl⟩ _ H2.out.1 oM;dsimp only[AH0] at hy;gi_wp2
    refine hRR.mono ?_;rintro e W3 (⟨rfl,hJ3,hk3⟩|⟨rfl,hJx3⟩)
    ·have H3:=hi2 hJ3 (rk0 H2.out.2 hk3);clear hJ3 hk3;gi_wp2
     go_roundw;case rel =>
      obtain⟨hJp,hown,hin,hcov,htk,hq,hxq⟩:=HR.out;refine⟨k+1,oM,by go_num,_,H3.out.1,H3.out.2,fun j hj=>?_,by simp;omega,fun j q hj hd hjt=>?_⟩
      ·rw[htk];simp only[dks,lt9,mj9,mH9] at hj;rcases lb9.1 hj with hj|hj
       ·exact lN9 _ (hin j hj)
       ·exact lu9 _ hj
      ·rw[htk] at hjt;simp only[dks,lt9,mj9,mH9];rcases lb9.1 hjt with hjt|hjt
       ·exact lN9 _ (hcov j q hj hd hjt)
       ·exact lu9 _ hjt
     case measure=>simp[intOf];omega
    ·have H3:=hid hJx3;clear hJx3;gi_wp2
     refine bodyPost_ret (results_none rfl _ _ _) rfl ?_;exact⟨⟨_,rfl⟩,.inr ⟨_,by simp;omega,H3.out⟩⟩
  ·obtain rfl:k=ks.length:=by omega
   have HR:=hi2 hJp (aI hin hcov);clear hbx hS hxn hxm hJp hown hin hcov;gi_wp2
   go_end0
   refine⟨⟨_,rfl⟩,.inl ⟨pre,⟨fun j q hj hd=>?_,oM⟩,HR.out.1⟩⟩;refine HR.out.2.2 j q hj hd ?_;rw[List.take_length];refine (HKS.out.2.1 j).2 ?_;rw[H0.out.2.2.2.1];simp[cleaned,dks,hj]
end
section
open Go.RowKit Go.Sg Go.Sg.Bits Go.Sg.Clk Go.Shelf CP SF
attribute [local go_sem] Oper.semAt_some
def flX (x:Sto)(L:List Int)(D:Dev):Sto:={ x with mem:=cleaned x.mem L,dev:=D }
structure FlI (w0:World)(B:Blk)(x:Sto)(c:Cont)(P:aC0)(a:Bool)(N b0 bx br:Nat)(L:List Int)(k:Nat)(W:World):Prop where
 b0:W.heap[b0]?=some (.cells #[B.ptr] 23)
 bx:W.heap[bx]?=some (.cells #[B.ptr] 23)
 br:W.heap[br]?=some (.cells #[.int .i64 0] 24)
 ex:∃ D,ax0 W B (flX x L D)/\Holds W (flX x L D) c P/\cx0 D P a (N+k)/\D.down=false/\D.sectors=x.dev.sectors/\D.size=x.dev.size
 fr:FrB B w0 W
structure FlX (w0:World)(B:Blk)(x:Sto)(P:aC0)(a:Bool)(N br:Nat)(k:Nat)(W:World):Prop where
 br:W.heap[br]?=some (.cells #[.int .i64 4] 24)
 ex:∃ D,bt0 W B.base B.d B.bf B.bq D/\cx0 D P a (N+k)/\D.down=true/\D.sectors=x.dev.sectors/\D.size=x.dev.size
 fr:FrB B w0 W
 arm:a=true
theorem in0 {β:Type}{B0:Nat}{I:β->World->Prop}(h0:∀ s W W',I s W->Fq W W'->I s W')
  (h1:∀ s W W' k,I s W->Fr (fun b=>b=k) W W'->B0<=k->(∀ c t f,W.heap[k]?≠some (.cells c t f))->I s W'):OwnFrom B0 I:=by
 intro s W W' row hs hg hr;cases row with
 | none=>exact h0 s W W' hs ⟨hg.os,hg.tape,hg.output,hg.size,fun b hb _=>hg.block b hb sP⟩
 | some k =>
  obtain⟨hk,o,ho,hc⟩:=hr k rfl;refine h1 s W W' k hs ⟨hg.os,hg.tape,hg.output,hg.size,fun b hb hn=>hg.block b hb (fun e=>hn (by cases e;rfl))⟩ hk fun c t f e=>?_
  rw[ho] at e;cases e;cases hc
variable {W w w' w0:World}{x:Sto}{P:aC0}{k:Int}{a:Bool}{B0 N br kn st:Nat}{L bs:List Int}
theorem Holds.frK {c:Cont}(h:Holds w x c P){k:Nat}(F:Fr (fun b=>b=k) w w')(hk:∀ cs t f,w.heap[k]?≠some (.cells cs t f)):Holds w' x c P:=
 ⟨h.ok,fun j q hq=>by obtain⟨st,bs,h1,h2,h3,h4⟩:=h.mem j q hq;exact⟨st,bs,h1,h2,h3.fr F (fun b cs hb e=>by rw[e] at hb;exact hk _ _ _ hb),h4⟩,h.dev⟩
variable {B:Blk}
theorem wS0 {c:Cont}{b0 bx:Nat}(hb:∀ r,B.at_ r<B0)(hw:w0.heap.size<=B0):OwnFrom B0 (fun pre W=>FlI w0 B x c P a N b0 bx br (dks (m:=x.mem) pre) pre.length W):=
 in0 (fun pre W W' h F=>by
   obtain⟨D,hS,hH,r⟩:=h.ex;exact⟨F.heap h.b0 id,F.heap h.bx id,F.heap h.br id,⟨D,hS.fr0 F,hH.frB (B:=B) (FrB.none F),r⟩,h.fr.trans (FrB.none F)⟩)
  (fun pre W W' k h F hk hc=>by
   obtain⟨D,hS,hH,r⟩:=h.ex;have n1:∀ b cs t f,W.heap[b]?=some (.cells cs t f)->¬ b=k:=fun b cs t f hb e=>by rw[e] at hb;exact hc _ _ _ hb
   exact⟨F.heap h.b0 (n1 _ _ _ _ h.b0),F.heap h.bx (n1 _ _ _ _ h.bx),F.heap h.br (n1 _ _ _ _ h.br),⟨D,hS.frK F (fun r e=>by have:=hb r;omega) (fun cs t=>hc cs t _),hH.frK F hc,r⟩,
    ⟨F.os.trans h.fr.os,F.tape.trans h.fr.tape,F.output.trans h.fr.output,nT h.fr.size F.size,fun b hb' hn=>(F.block b (nLL hb' h.fr.size) oM).trans (h.fr.block b hb' hn)⟩⟩)
theorem wQ0 (hb:∀ r,B.at_ r<B0)(hw:w0.heap.size<=B0):OwnFrom B0 (fun (pre:List (Dty x.mem)) W=>FlX w0 B x P a N br pre.length W):=
 in0 (fun pre W W' h F=>by
   obtain⟨D,hS,r⟩:=h.ex;exact⟨F.heap h.br id,⟨D,hS.fr F id id id (fun _ _ _ _ _ h=>h),r⟩,h.fr.trans (FrB.none F),h.arm⟩)
  (fun pre W W' k h F hk hc=>by
   obtain⟨D,hS,r⟩:=h.ex;have n1:∀ b cs t f,W.heap[b]?=some (.cells cs t f)->¬ b=k:=fun b cs t f hb e=>by rw[e] at hb;exact hc _ _ _ hb
   exact⟨F.heap h.br (n1 _ _ _ _ h.br),⟨D,hS.fr F (fun e=>by have:=hb .d;simp only[Blk.at_] at this;omega) (fun e=>by have:=hb .bf;simp only[Blk.at_] at this;omega) (fun e=>by have:=hb .bq;simp only[Blk.at_] at this;omega) (fun g cs t _ hg e=>n1 _ _ _ _ hg e),r⟩,
    ⟨F.os.trans h.fr.os,F.tape.trans h.fr.tape,F.output.trans h.fr.output,nT h.fr.size F.size,fun b hb' hn=>(F.block b (nLL hb' h.fr.size) oM).trans (h.fr.block b hb' hn)⟩,h.arm⟩)
variable {m:Int->Option Pg}{q:Pg}
theorem gN0 (hq:m k=some q):ej0 (cleaned m L) k (Pg.clean q) none=cleaned m (L++[k]):=by
 funext j
 simp only[ej0,Option.map_none];by_cases hj:j=k
 ·subst hj;rw[if_pos rfl,cleaned,if_pos sP,hq];rfl
 ·rw[if_neg hj,if_neg sP];unfold cleaned;by_cases h:j ∈ L
  ·rw[if_pos h,if_pos (by simp[h])]
  ·rw[if_neg h,if_neg (by simp[h,hj])]
theorem dg0:cleaned m L k=none↔m k=none:=by
 unfold cleaned;split <;> simp
variable {D:Dev}
theorem wU0 {W':World}{c:Cont}(hH:Holds W (flX x L D) c P)(hq:x.mem kn=some q)(hc:c kn=some (st,bs))(hz:D.size=x.dev.size)(F:FrB B W W') :
  Holds W' (flX x (L++[(kn:Int)]) (D.wrote (x.first+kn) (af0 x.dev.size 2 kn st bs))) c P:=by
 have hsz:(D.wrote (x.first+kn) (af0 x.dev.size 2 kn st bs)).size=x.dev.size:=hz;refine⟨hH.ok,fun k p hp=>?_,fun k s b hk hm=>?_⟩
 ·have hp':cleaned x.mem (L++[(kn:Int)]) k=some p:=hp;rw[<- gN0 hq] at hp';show ∃ st bs,_/\_/\_/\(_->P (x.first+k)=none)/\(_->(D.wrote _ _).sec (x.first+k)=af0 (D.wrote _ _).size 2 k.toNat st bs)
  rw[hsz,Dev.fp0];by_cases hkn:k=kn
  ·subst hkn;simp only[ej0,if_true,Option.some.injEq] at hp';subst hp';have hm:∃ q',(flX x L D).mem kn=some q'/\q'.stamp=q.stamp/\q'.la=q.la/\q'.ll=q.ll/\q'.lc=q.lc:=by
    show ∃ q',cleaned x.mem L kn=some q'/\_
    unfold cleaned;split
    ·exact⟨Pg.clean q,by rw[hq];rfl,rfl,rfl,rfl,rfl⟩
    ·exact⟨_,hq,rfl,rfl,rfl,rfl⟩
   obtain⟨q',hq',e0,e1,e2,e3⟩:=hm;obtain⟨s0,b0,a1,a2,a3,a4,a5⟩:=hH.mem kn q' hq';rw[hc] at a1;cases a1;refine⟨st,bs,hc,by rw[<- a2];exact e0.symm,?_,fun h=>(by cases h),fun _=>by rw[if_pos rfl];simp⟩;rw[e1,e2,e3] at a3;exact a3.frB F
  ·simp only[ej0,if_neg hkn,Option.map_none] at hp';rw[if_neg sP] at hp';obtain⟨s0,b0,a1,a2,a3,a4,a5⟩:=hH.mem k p hp';refine⟨s0,b0,a1,a2,a3.frB F,a4,fun h=>?_⟩;rw[if_neg oM];have:=a5 h;rw[show (flX x L D).dev.size=x.dev.size from hz] at this;exact this
 ·have hm':x.mem k=none:=dg0.1 hm;have hkn:k≠kn:=by rintro rfl;rw[hq] at hm';cases hm'
  show (D.wrote _ _).sec (x.first+k)=af0 (D.wrote _ _).size 2 k.toNat s b;rw[hsz,Dev.fp0,if_neg oM];have:=hH.dev k s b hk (dg0.2 hm');rw[show (flX x L D).dev.size=x.dev.size from hz] at this;exact this
theorem yP0 {w2 W3 w4:World}{c:Cont}{Bx:Nat}{la:Option Addr}{ll lc:Nat}{pre:List (Dty x.mem)}{g:Option (Int × Pg)}
  (hI:FlI w B x c P a N w.heap.size (w.heap.size+2) (w.heap.size+1) (dks pre) pre.length W) (hS:ax0 W B (flX x (dks pre) D)) (hH:Holds W (flX x (dks pre) D) c P) (hdo:D.act.down=false) (hds:D.sectors=x.dev.sectors) (hdz:D.size=x.dev.size)
  (hq:x.mem kn=some ⟨st,la,ll,lc,true⟩) (hc:c kn=some (st,bs)) (hbv:ByV W la ll lc bs) (hbl:bs.length<=x.room) (hD2:cx0 (D.wrote (x.first+kn) (af0 x.dev.size 2 kn st bs)) P a (N+pre.length+1)) (F2:FrB B W w2)
  (hx2:w2.heap[Bx]?=some (.cells #[.int .i64 st,.slice la ll lc,.bool true] 162)) (hBx:w.heap.size<=Bx) (hB0:∀ r,B.at_ r<B0) (hB0x:B0<=Bx)
  (hW3:w2.setCell ⟨Bx,2,none⟩ (.bool false)=W3) (hS3:ax0 W3 B { flX x (dks pre) D with dev:=D.wrote (x.first+kn) (af0 x.dev.size 2 kn st bs) }) (FN:Fr (fun b=>b=Bx) w2 W3)
  (hb0:W3.heap[w.heap.size]?=some (.cells #[B.ptr] 23)) (hbx:W3.heap[w.heap.size+2]?=some (.cells #[B.ptr] 23)) (hbr:W3.heap[w.heap.size+1]?=some (.cells #[.int .i64 0] 24))
  (hg:cc0 (flX x (dks pre) D).mem (flX x (dks pre) D).places kn g) (hm4:bL0 w4 B.bc B.bp B.bm (flX x (dks pre) D).places (ej0 (flX x (dks pre) D).mem kn ⟨st,la,ll,lc,false⟩ g)) (F4:Fr (fun b=>b=B.bc\/b=B.bp\/b=B.bm) W3 w4) :
  KeepsFrom B0 W w4/\KpI W w4/\FlI w B x c P a N w.heap.size (w.heap.size+2) (w.heap.size+1) (dks (m:=x.mem) (pre++[⟨((kn:Int),⟨st,la,ll,lc,true⟩),hq,rfl⟩])) (pre++[(⟨((kn:Int),⟨st,la,ll,lc,true⟩),hq,rfl⟩:Dty x.mem)]).length w4:=by
 have hgn:g=none:=by
  cases g with
  | none=>rfl
  | some g =>
   have h1:=hg.2.2.1;have h2:cleaned x.mem (dks pre) kn=none:=h1;rw[dg0,hq] at h2;cases h2
 subst hgn;have FR:FrR B [.bc,.bp,.bm] W3 w4:=F4.mono fun b _ h=>zT0 h
 have n5:∀ b cs t f,W3.heap[b]?=some (.cells cs t f)->t ∉ em0->¬ (b=B.bc\/b=B.bp\/b=B.bm):=fun b cs t f hb ht h=>by
  obtain⟨r,_,rfl⟩:=zT0 h;exact ht ((hS3.heaps r).2.1 cs t f hb)
 have hS4:ax0 w4 B (flX x (dks pre++[(kn:Int)]) (D.wrote (x.first+kn) (af0 x.dev.size 2 kn st bs))):=by
  have h1:=hS3.nm0 FR (m:=ej0 (cleaned x.mem (dks pre)) kn ⟨st,la,ll,lc,false⟩ none) hm4 (ix0 hS3 FR (n:=kn) (p:=⟨st,la,ll,lc,false⟩) (g:=none) ⟨bs,(hbv.frB F2).frL FN hx2 dC,hbl⟩);rw[show (⟨st,la,ll,lc,false⟩:Pg)=Pg.clean ⟨st,la,ll,lc,true⟩ from rfl,gN0 hq] at h1;exact h1
 have hL:dks (m:=x.mem) (pre++[⟨((kn:Int),⟨st,la,ll,lc,true⟩),hq,rfl⟩])=dks pre++[(kn:Int)]:=by simp[dks]
 have hlen:(pre++[(⟨((kn:Int),⟨st,la,ll,lc,true⟩),hq,rfl⟩:Dty x.mem)]).length=pre.length+1:=by simp
 have hH4:=(((wU0 hH hq hc hdz F2).frL FN hx2 dC)).frB (hS3.frB FR);refine⟨?_,?_,?_⟩
 ·have k1:=(F2.keeps hB0).trans (((KeepsOthers.setCell w2 ⟨Bx,2,none⟩ (.bool false)).from B0));rw[hW3] at k1;refine k1.trans ⟨F4.size,fun k o hk ho hc=>F4.heap ho fun h=>?_⟩;obtain⟨r,_,rfl⟩:=zT0 h;have:=hB0 r;omega
 ·intro g' c' f' hg';have h2:=F2.heap hg' dC;have h3:=FN.heap h2 (fun e=>by rw[e,hx2] at h2;cases h2);exact F4.heap h3 (n5 _ _ _ _ h3 dC)
 ·rw[hL,hlen];have F03:FrB B w W3:=by
   rw[<- hW3];exact (hI.fr.trans F2).setCell (a:=⟨Bx,2,none⟩) (fun h=>absurd h sO) _
  exact⟨F4.heap hb0 (n5 _ _ _ _ hb0 dC),F4.heap hbx (n5 _ _ _ _ hbx dC),F4.heap hbr (n5 _ _ _ _ hbr dC),
   ⟨_,hS4,hH4,hD2,hdo,hds,hdz⟩,F03.trans (hS3.frB FR)⟩
theorem lv0 {n:Nat}{R:Ending->World->Prop}{tmps:Array Value}{DD:Nat}{v:Int}(q:W.heap[br]?=some (.cells #[.int .i64 v] 24))
  (hK:W.heap[DD]?=some (.deferred (some []))) (hD:br<DD) (hR:R (.returned (.int .i64 v)) (W.putObj DD (.deferred none))) (t2:tmps.getD 2 undef = .pointer (some ⟨br,0,none⟩)) :
  bodyPostM Fence.wide n Tryz.prog Tryz.f39 R .ret { tmps:=tmps,defers:=[{ target:=.collected DD,args:=#[] }] } W:=by
 have e1:(W.putObj DD (.deferred none)).cell? ⟨br,0,none⟩=some (.int .i64 v):=by
  have:=coh ((hpj W DD (.deferred none) br oM).trans q) 0;simpa using this
 refine⟨by simp,.inl ⟨_,_,rfl,run_takeDeferred hK,_,?_,hR⟩⟩;rw[mk9] at t2;simp[results,Tryz.results39,go_sem,t2,e1]
def yu0 (B:Blk)(x:Sto)(c:Cont)(P:aC0)(a:Bool)(N:Nat)(w:World)(e:Ending)(w':World):Prop:=
 ∃ err,e = .returned (.int .i64 err)/\FrB B w w' /\
  ((err=0/\∃ L D,ax0 w' B (flX x L D)/\Holds w' (flX x L D) c P/\cx0 D P a (N+x.places)/\D.down=false/\D.sectors=x.dev.sectors/\D.size=x.dev.size/\∀ k q,cleaned x.mem L k=some q->q.dirty=false) \/
   (err=4/\a=true/\∃ D,bt0 w' B.base B.d B.bf B.bq D/\cx0 D P a (N+x.places)/\D.down=true/\D.sectors=x.dev.sectors/\D.size=x.dev.size))
theorem tH0 {c:Cont}(h:ax0 w B x)(hi:Is w x c P a N)(hN:N+x.places<=90000) :
  Calls Tryz.prog 39 #[B.ptr] w (yu0 B x c P a N w):=by
 refine (callsIn_wide (n:=10)).1 ?_;obtain⟨W1,hW1⟩:=eX ((w.alloc (.cells #[B.ptr] 23)).alloc (.cells #[.int .i64 0] 24))
 obtain⟨x0,x1,F1⟩:=ai0 hW1;have s1:W1.heap.size=w.heap.size+2:=by rw[<- hW1];simp
 have c0:=coh x0 0;simp at c0;have HDI:=hid (qN0 (some ⟨B.s,0,none⟩) W1);have HX:=hi2 x0 (aI x1 F1);have H:=hi2 h hi;have HW1:=hid hW1;have l1:=loh x0;clear hW1 x0 x1 F1 h hi;refine callsIn_of_wp_marks Tryz.func39 rfl trivial ?_ rfl;simp only[Tryz.ntmps39,zA,lC,lz9,Nat.reduceAdd,Nat.reduceSub,lq9,lr9,ly9,ls9,le9,lo9];gi_wp2_with (fail)
 rw[HW1.out];refine (callsIn_wide.2 HDI.out).mono ?_;rintro e w' ⟨rfl,rfl⟩;gi_wp2_with (fail)
 obtain⟨W0,hW0⟩:=eX (W1.alloc (.cells #[B.ptr] 23))
 have F10:Fq W1 W0:=by rw[<- hW0];exact (Fr.refl _ _).alloc _
 have hbx:W0.heap[w.heap.size+2]?=some (.cells #[B.ptr] 23):=by rw[<- hW0,<- s1];exact han _ _
 have hF0:=HX.out.2.2.trans F10 nI;have hsz:W0.heap.size=w.heap.size+3:=by rw[<- hW0];simp;omega
 have hm0:cleaned x.mem []=x.mem:=by funext k;simp[cleaned]
 have hX0:flX x [] x.dev=x:=by rw[flX,hm0]
 have hI0:FlI w B x c P a N w.heap.size (w.heap.size+2) (w.heap.size+1) [] 0 W0:=
  ⟨F10.heap HX.out.1 id,hbx,F10.heap HX.out.2.1 id,⟨x.dev,by rw[hX0];exact H.out.1.fr0 hF0,by rw[hX0];exact H.out.2.holds.frB (B:=B) (FrB.none hF0),H.out.2.dev,H.out.2.down,rfl,rfl⟩,FrB.none hF0⟩
 have hbl:∀ r,B.at_ r<W0.heap.size:=fun r=>by have:=(H.out.1.heaps r).2.2.1;omega
 rw[hW0];refine iQ0 (F:=Fence.wide) rfl oM (gf:=168) (lb:=#[.pointer (some ⟨w.heap.size+2,0,none⟩)]) rfl trivial (enters_of Tryz.func168 kF rfl)
  (fun pre W=>FlI w B x c P a N w.heap.size (w.heap.size+2) (w.heap.size+1) (dks (m:=x.mem) pre) pre.length W)
  (md0 (w:=W0) (B:=B) (n:=x.places) oM (fun pre W hI=>⟨hI.bx,by obtain⟨D,hS,_⟩:=hI.ex;exact⟨_,hS,rfl,rfl⟩⟩))
  (fun h k g c f hg=>k g c f (h g c f hg)) (fun W l o o' hl ho hc _ g c f hg=>by rw[hpj _ _ _ _ (by rintro rfl;rw[hg] at ho;cases ho;cases hc)];exact hg) (Below.refl _ _) (fun _=>rfl)
  (fun cc pre W=>cc = .ret/\FlX w B x P a N (w.heap.size+1) pre.length W)
  (wS0 hbl oM) (fun cc=>aZ0 (aJ0 _ _) (wQ0 hbl oM)) hI0
  (fun y a' W=>∃ Bx,(W0.heap.size<=Bx/\W.heap[Bx]?=some (.cells #[.int .i64 y.1.2.stamp,.slice y.1.2.la y.1.2.ll y.1.2.lc,.bool y.1.2.dirty] 162))/\a'={ tmps:=#[B.ptr,.pointer (some ⟨w.heap.size,0,none⟩),.pointer (some ⟨w.heap.size+1,0,none⟩),.int .i64 y.1.1,.pointer (some ⟨Bx,0,none⟩),undef,B.ptr,.bool false,B.ptr,.func (.func 168) #[] #[.pointer (some ⟨w.heap.size+2,0,none⟩)],.int .i64 y.1.1,y.1.2.val,undef,undef,undef,undef,undef,undef,undef,undef,undef,undef,undef,undef,undef,undef,undef],defers:=[] })
  (fun x a'=>eL0 fun Bx=>aZ0 (aZ0 (aJ0 _ _) (aN0 _ _ _ (fun _=>.inl rfl))) (aJ0 _ _))
  ?assign ?body ?done ?stop
 case assign =>
  rintro l pre ⟨⟨key,⟨sta,la,ll,lc,di⟩⟩,hq,hd⟩ W K hI hK;simp only at hq hd;subst hd;have hsW:W0.heap.size<=W.heap.size:=by have:=loh hI.bx;omega
  have FN:Fq W (W.alloc (.cells #[.int .i64 sta,.slice la ll lc,.bool true] 162)):=(Fr.refl _ _).alloc _;have HI:=hid hI;have HK:=hid hK;clear hI hK;gi_wp2
  obtain⟨h0,h1,h2,⟨D,hS,hH,r⟩,hF⟩:=HI.out;exact HK.out _ _ ((KeepsOthers.alloc _ _).from _) (KpI.fr FN) ⟨FN.heap h0 id,FN.heap h1 id,FN.heap h2 id,⟨D,hS.fr0 FN,hH.frB (B:=B) (FrB.none FN),r⟩,hF.trans (FrB.none FN)⟩ ⟨W.heap.size,⟨hsW,han _ _⟩,rfl⟩
 case body =>
  rintro l pre ⟨⟨key,⟨sta,la,ll,lc,di⟩⟩,hq,hd⟩ a' W hl ⟨r,hr⟩ hI ⟨Bx,⟨hBx,hbX⟩,rfl⟩ hlen;simp only at hq hd hbX;subst hd;obtain⟨D,hS,hH,hD,hdn,hds,hdz⟩:=hI.ex;obtain⟨st,bs,hc,hst,_,hP,_⟩:=H.out.2.holds.mem key _ hq;obtain⟨g1,g2,g3,g4⟩:=H.out.2.holds.ok key st bs hc;simp only at hst hP;subst hst;obtain⟨kn,rfl⟩:=iZ g1.1;have hbv:ByV W la ll lc bs:=by
   have hmk:∃ q',(flX x (dks pre) D).mem kn=some q'/\q'.la=la/\q'.ll=ll/\q'.lc=lc:=by
    show ∃ q',cleaned x.mem (dks pre) kn=some q'/\_
    unfold cleaned;split
    ·exact⟨_,by rw[hq];rfl,rfl,rfl,rfl⟩
    ·exact⟨_,hq,rfl,rfl,rfl⟩
   obtain⟨q',hq',rfl,rfl,rfl⟩:=hmk;obtain⟨st',bs',hc',_,hb',_⟩:=hH.mem kn q' hq';rw[hc] at hc';cases hc';exact hb'
  have hbl':=hbv.len;have hrg:=hS.rg;have HO:=hid (out_ok hS hdn (nT hD.acts oM) hD.armed (nT hD.many oM) kn (show kn<x.pages by omega) st g2 true hbv g4 (show ll<=x.room by omega));have HI:=hi2 hI (aI hS (aI hH (aI hD (aI hdn (aI hds hdz)))));have HC:=hi2 hc (aI (hP trivial) (aI g4 hbv));have HX2:=hid hbX;have y0:=coh hI.b0 0;obtain⟨z0,z1,z2,zz,zl⟩:=cells3 hbX;simp at y0;clear hI hS hH hD hdn hds hdz hc hP hbv g4 hbX hr;gi_wp2_with (fail)
  refine (CallsIn.inRound l (callsIn_wide.2 HO.out)).mono ?_;rintro e w2 ⟨D2,err,rfl,hwr,hS2,F2⟩;obtain⟨hI,hS,hH,hD,hdn,hds,hdz⟩:=HI.out;obtain⟨hc,hPn,g4,hbv⟩:=HC.out;have hb2:(af0 x.dev.size 2 kn st bs).length=x.dev.size:=cu0 (by have:=H.out.1.rg.2.2.2.2;omega);have hwr':(D2,err)=(D.wrote (x.first+kn) (af0 x.dev.size 2 kn st bs),if D.act.down then 4 else 0):=by
   rw[hwr];show D.write (x.first+kn) (af0 D.size 2 (kn:Int).toNat (st:Int).toNat bs)=_;rw[hdz];exact Dev.oW0 hdn (by have:=H.out.1.rg;omega) (by rw[hdz];exact hb2)
  obtain⟨rfl,herr⟩:=Prod.mk.inj hwr';have hD2:=hD.wrote (at_:=x.first+kn) (bs:=af0 x.dev.size 2 kn st bs) (by rw[hdz];exact hb2) hPn (ey0 g4);have hx2:=F2.heap HX2.out dC;have hb02:=F2.heap hI.b0 dC;have hbx2:=F2.heap hI.bx dC;have hbr2:=F2.heap hI.br dC;have HK2:=hid (F2.keeps hbl);have HE:=hid herr;have H2:=hi2 hS2 (aI hD2 (aI F2 (aI hx2 (aI hb02 (aI hbx2 hbr2)))));have nr:∀ r,B.at_ r<w.heap.size:=fun r=>(H.out.1.heaps r).2.2.1
  have NR:=hid nr;have sW:=hI.fr.size;have hBw:W0.heap.size<=Bx:=hBx;clear hI hS hH hD hdn hds hdz hc hPn g4 hbv hwr hwr' hS2 hD2 F2 herr nr;obtain⟨y1,y2,y3,yz,yl⟩:=cells3 hx2;have u0:=coh hb02 0;have u1:=coh hbr2 0;have uz:=foh hbr2 0;simp at u0 u1;clear hx2 hb02 hbx2 hbr2;by_cases hdo:D.act.down=true
  ·obtain rfl:err=4:=by have:=HE.out;rw[if_pos hdo] at this;exact this
   have HDO:=hid hdo;clear hdo;gi_wp2
   obtain⟨hS2,hD2,F2,hx2,hb02,hbx2,hbr2⟩:=H2.out;obtain⟨hI,hS,hH,hD,hdn,hds,hdz⟩:=HI.out;have FL:Fr (fun b=>b=w.heap.size+1) w2 (w2.setCell ⟨w.heap.size+1,0,none⟩ (.int .i64 4)):=(Fr.refl (fun b=>b=w.heap.size+1) _).setCell (a:=⟨w.heap.size+1,0,none⟩) (fun _=>rfl) _;refine⟨HK2.out.trans ((KeepsOthers.setCell _ _ _).from _),rfl,?_⟩;refine⟨by rw[hsc _ _ _ _ hbr2];rfl,⟨_,hS2.dev.fr FL (by have:=NR.out .d;simp only[Blk.at_] at this;omega) (by have:=NR.out .bf;simp only[Blk.at_] at this;omega) (by have:=NR.out .bq;simp only[Blk.at_] at this;omega) (fun g cs t ht hg e=>by rw[e,hbr2] at hg;cases hg;rcases ht with h|h|h <;> cases h),by simpa[mw9] using hD2,HDO.out,hds,hdz⟩,?_,?_⟩
   ·exact (hI.fr.trans F2).setCell (a:=⟨w.heap.size+1,0,none⟩) (fun h=>absurd h sP) _
   ·cases a with
    | true=>rfl
    | false=>have:=HDO.out;rw[Dev.mq0 hdn (hD.calm rfl)] at this;cases this
  ·obtain rfl:err=0:=by have:=HE.out;rw[if_neg hdo] at this;exact this
   have HDO:=hid hdo;clear hdo;obtain⟨W3,hW3⟩:=eX (w2.setCell ⟨Bx,2,none⟩ (.bool false))
   have FN:Fr (fun b=>b=Bx) w2 W3:=by rw[<- hW3];exact (Fr.refl (fun b=>b=Bx) _).setCell (a:=⟨Bx,2,none⟩) (fun _=>rfl) _
   have hx3:W3.heap[Bx]?=some (.cells #[.int .i64 st,.slice la ll lc,.bool false] 162):=by rw[<- hW3,hsc _ _ _ _ H2.out.2.2.2.1];rfl
   have hb03:=FN.heap H2.out.2.2.2.2.1 oM;have hbx3:=FN.heap H2.out.2.2.2.2.2.1 oM;have hbr3:=FN.heap H2.out.2.2.2.2.2.2 oM;have hS3:=H2.out.1.frL FN H2.out.2.2.2.1 dC;have HPM:=hid (fun Wd (F:Fq W3 Wd)=>lV0 ((hS3.fr0 F).mem) kn ⟨st,la,ll,lc,false⟩);obtain⟨v1,v2,v3,vz,vl⟩:=cells3 hx3;have t0:=coh hb03 0;simp at t0;have c17:=hS3.sc.c17;have l3:=hS3.sc.lt;have HW3:=hid hW3;have H3:=hi2 hS3 (aI FN (aI hx3 (aI hb03 (aI hbx3 hbr3))));have hmix:Tryz.prog.follows .mixedOrders=true:=by kernel_rfl
   have FIN:=hid (fun (w4:World) (g:Option (Int × Pg)) (hg:cc0 (flX x (dks pre) D).mem (flX x (dks pre) D).places kn g) (hm4:bL0 w4 B.bc B.bp B.bm (flX x (dks pre) D).places (ej0 (flX x (dks pre) D).mem kn ⟨st,la,ll,lc,false⟩ g)) (F4:Fr (fun b=>b=B.bc\/b=B.bp\/b=B.bm) W3 w4) =>
    yP0 HI.out.1 HI.out.2.1 HI.out.2.2.1 (by simpa using HDO.out) HI.out.2.2.2.2.2.1 HI.out.2.2.2.2.2.2 hq HC.out.1 HC.out.2.2.2 g3 H2.out.2.1 H2.out.2.2.1 H2.out.2.2.2.1 oM hbl hBw hW3 hS3 FN hb03 hbx3 hbr3 hg hm4 F4)
   clear hS3 FN hx3 hb03 hbx3 hbr3 hW3;gi_upto_region 10 with fail
   rw[HW3.out];clear y1 y2 y3 yz yl u0 u1 uz z0 z1 z2 zz y0;gi_region_with_o ((gi_at_call 111;refine (CallsIn.inRound l (callsIn_wide.2 (HPM.out _ (by first|exact Fr.refl _ _|exact (Fr.refl _ _).drew)))).mono ?_;rintro e w4 ⟨g,hg,rfl,hm4,F4⟩))
   all_goals exact FIN.out w4 g hg hm4 (by first|with_reducible exact F4|exact (Fr.refl _ _).drew.trans F4 nI)
 case done =>
  rintro DD xs W hDD ⟨hxs,hxl⟩ hI hK;have u1:=coh hI.br 0;have uz:=foh hI.br 0;simp at u1;have HI:=hi2 hI hK;clear hI hK;gi_wp2
  obtain⟨hI,hK⟩:=HI.out;obtain⟨D,hS,hH,hD,hdn,hds,hdz⟩:=hI.ex;obtain⟨W3,hW3⟩:=eX (W.setCell ⟨w.heap.size+1,0,none⟩ (.int .i64 0))
  have FL:Fr (fun b=>b=w.heap.size+1) W W3:=by rw[<- hW3];exact (Fr.refl (fun b=>b=w.heap.size+1) _).setCell (a:=⟨w.heap.size+1,0,none⟩) (fun _=>rfl) _
  have hr3:W3.heap[w.heap.size+1]?=some (.cells #[.int .i64 0] 24):=by rw[<- hW3,hsc _ _ _ _ hI.br];rfl
  have hK3:=FL.heap hK oM;have F03:FrB B w W3:=by rw[<- hW3];exact hI.fr.setCell (a:=⟨w.heap.size+1,0,none⟩) (fun h=>absurd h sP) _
  have hS3:=hS.frL FL hI.br dC;have hH3:=hH.frL FL hI.br dC;have FP:Fr (fun b=>b=DD) W3 (W3.putObj DD (.deferred none)):=(Fr.refl (fun b=>b=DD) _).putObj (fun _=>rfl) _;have nc:∀ c t f,W3.heap[DD]?≠some (.cells c t f):=fun c t f e=>by rw[hK3] at e;cases e
  rw[hW3];refine lv0 hr3 hK3 oM ⟨0,rfl,F03.putObj (fun h=>absurd h oM) _,.inl ⟨rfl,dks xs,D,hS3.frK FP (fun r e=>by have:=hbl r;omega) (fun cs t=>nc cs t _),hH3.frK FP nc,hD.mono oM,hdn,hds,hdz,fun k q hk=>?_⟩⟩ rfl;cases hq:q.dirty with
  | false=>rfl
  | true =>
   obtain⟨h1,h2⟩:=jR0 hk hq;exact absurd (hxs k q h1 hq) h2
 case stop =>
  rintro DD cc pre W hDD hSp ⟨rfl,hX⟩ hK;have HX2:=hi2 hX hK;clear hX hK;gi_wp2
  obtain⟨hX,hK⟩:=HX2.out;obtain⟨D,hD,hok,hdn,hds,hdz⟩:=hX.ex;have FP:Fr (fun b=>b=DD) W (W.putObj DD (.deferred none)):=(Fr.refl (fun b=>b=DD) _).putObj (fun _=>rfl) _;have nc:∀ g cs t f,W.heap[g]?=some (.cells cs t f)->¬ g=DD:=fun g cs t f e e'=>by rw[e',hK] at e;cases e
  refine lv0 hX.br hK oM ⟨4,rfl,hX.fr.putObj (fun h=>absurd h oM) _,.inr ⟨rfl,hX.arm,D,hD.fr FP (by have:=hbl .d;simp only[Blk.at_] at this;omega) (by have:=hbl .bf;simp only[Blk.at_] at this;omega) (by have:=hbl .bq;simp only[Blk.at_] at this;omega) (fun g cs t _ hg=>nc g cs t _ hg),hok.mono oM,hdn,hds,hdz⟩⟩ rfl
structure cZ0 (l:Nat)(w:World)(B:Blk)(y:Cs)(P:aC0)(a:Bool)(N:Nat):Prop where
 ex:∃ x c,ax0 w B x/\y=x.cs c/\Is w x c P a N/\(1<=l->∀ k q,x.mem k=some q->q.dirty=false)/\(2<=l->x.dev.loose=[])
 tab:Tab w
 base:0<B.base
theorem cZ0.c {l:Nat}{w:World}{B:Blk}{y:Cs}{P:aC0}{a:Bool}{N:Nat}(h:cZ0 l w B y P a N):aw0 w B y P a N:=by
 obtain⟨x,c,h1,h2,h3,_⟩:=h.ex;exact⟨⟨x,c,h1,h2,h3⟩,h.tab,h.base⟩
variable {y:Cs}
theorem cZ0.fr0 {l:Nat}(h:cZ0 l w B y P a N)(F:Fq w w'):cZ0 l w' B y P a N:=by
 obtain⟨⟨x,c,hS,hy,hi,hl⟩,ht,hb⟩:=h;exact⟨⟨x,c,hS.fr0 F,hy,{ hi with holds:=hi.holds.frB (B:=B) (FrB.none F) },hl⟩,ht.fr F id,hb⟩
def yt0 (B:Blk)(y:Cs)(P:aC0)(a:Bool)(N:Nat)(w:World)(e:Ending)(w':World):Prop:=
 ∃ err,e = .returned (.int .i64 err)/\FrB B w w'/\((err=0/\cZ0 1 w' B y P a (N+y.places))\/(err=4/\a=true/\aP0 w' B y P (N+y.places)))
theorem wR0 (h:aw0 w B y P a N)(hN:N+y.places<=90000):Calls Tryz.prog 39 #[B.ptr] w (yt0 B y P a N w):=by
 obtain⟨⟨x,c,hS,rfl,hi⟩,hT,hb⟩:=h;refine (tH0 hS hi hN).mono ?_;rintro e w' ⟨err,he,F,⟨rfl,L,D,hS',hH',hD',hdn,hds,hdz,hcl⟩|⟨rfl,ha,D,hA,hD',hdn,hds,hdz⟩⟩
 ·refine⟨0,he,F,.inl ⟨rfl,⟨⟨flX x L D,c,hS',?_,⟨hdn,hD',hH',hi.ptk,hi.apart,hN⟩,fun _=>hcl,fun h=>absurd h oM⟩,hT.fr F (fun h=>oM),hb⟩⟩⟩;simp[Sto.cs,flX,hds,hdz]
 ·subst ha;exact⟨4,he,F,.inr ⟨rfl,rfl,⟨D,hA,hD',hdn,hds,hdz⟩⟩⟩
end
end Go.Proofs.YtgdhaaokolfdoaaGreatDoor
namespace Go.Sg
open Go.RowKit
theorem oK0 {size place stamp n:Nat}{load:List Int}:af0 size 2 place stamp load≠List.replicate n 0:=by
 intro h;have h1:(af0 size 2 place stamp load)[0]?=some 2:=by simp[af0,dj0,leB]
 rw[h,lF9] at h1;split at h1
 ·simp at h1
 ·cases h1
variable {D:Dev}{k:Int}
theorem mZ0 (hl:D.loose=[]){bs:List Int}(hne:∀ n,bs≠List.replicate n 0)(h:D.sec k=bs):D.fast k=some bs:=by
 rw[ge0 (by rw[hl];intro z hz;cases hz)] at h;cases hf:D.fast k with
 | none=>rw[hf] at h;exact absurd h.symm (hne _)
 | some v=>rw[hf] at h;exact congrArg some h
def zb0 (f:Int->Option (List Int))(k:Int)(bs:List Int):Int->Option (List Int):=fun j=>if j=k then some bs else f j
def er0 (f:Int->Option (List Int))(l:List (Int × List Int)):Int->Option (List Int):=l.foldl (fun f y=>zb0 f y.1 y.2) f
theorem fK0 (f:Int->Option (List Int))(l:List (Int × List Int))(y:Int × List Int):er0 f (l++[y])=zb0 (er0 f l) y.1 y.2:=by
 simp[er0]
theorem ma0 (f:Int->Option (List Int))(k:Int)(l:List (Int × List Int)):er0 f l.reverse k=((l.find? (fun y=>decide (y.1=k))).map (·.2)).or (f k):=by
 induction l with
 | nil=>rfl
 | cons y l ih =>
  rw[List.reverse_cons,fK0,ma9];by_cases h:y.1=k
  ·simp[zb0,h]
  ·have h':¬ k=y.1:=fun e=>h e.symm
   simp only[zb0,if_neg h',decide_eq_false h];exact ih
def Dev.synced (D:Dev):Dev:={ D.act with fast:=er0 D.fast D.loose,loose:=[] }
theorem Dev.eg0 (D:Dev)(k:Int):D.synced.fast k=((D.loose.reverse.find? (fun y=>decide (y.1=k))).map (·.2)).or (D.fast k):=by
 have:=ma0 D.fast k D.loose.reverse;rw[List.reverse_reverse] at this;exact this
theorem Dev.jc0 (D:Dev)(k:Int):D.synced.sec k=D.sec k:=by
 have h1:D.synced.sec k=(D.synced.fast k).getD (List.replicate D.size 0):=ge0 (D:=D.synced) (fun z hz=>by cases hz);rw[h1,Dev.eg0,Dev.sec];cases D.loose.reverse.find? (fun y=>decide (y.1=k)) <;> rfl
theorem qE0 (h:∀ y ∈ D.loose,y.1≠k):D.synced.fast k=D.fast k:=by
 rw[Dev.eg0];rw[nd9.2 (fun y hy=>by have:=h y (nt9.1 hy);simpa using this)];rfl
theorem cx0.synced {P:Int->Option (List Int)}{a:Bool}{N:Nat}(h:cx0 D P a N):cx0 D.synced P a (N+1):=by
 refine⟨nu9 h.acts,by simp[Dev.synced],fun y hy=>(by cases hy),fun k bs hk=>⟨?_,fun y hy=>by cases hy⟩,?_,fun ha=>?_,⟨fun y hy=>(by cases hy),fun k bs hk=>?_⟩⟩
 ·rw[qE0 (h.prot k bs hk).2];exact (h.prot k bs hk).1
 ·show D.armed-1<=_;have:=h.armed;omega
 ·show D.armed-1=0;rw[h.calm ha]
 ·rw[Dev.eg0] at hk;cases hf:D.loose.reverse.find? (fun y=>decide (y.1=k)) with
  | none=>rw[hf] at hk;exact h.byt.2 k bs hk
  | some y =>
   rw[hf] at hk;cases hk;exact h.byt.1 y (nt9.1 (mV9 hf))
structure zQ0 (D D':Dev):Prop where
 sectors:D'.sectors=D.sectors
 size:D'.size=D.size
 acts:D'.acts=D.acts
 loose:D'.loose=[]
 armed:D'.armed=0
 down:D'.down=false
 fast:∀ k,(∀ y ∈ D.loose,y.1≠k)->D'.fast k=D.fast k
 byt:((∀ y ∈ D.loose,∀ x ∈ y.2,0<=x/\x<256)/\∀ k bs,D.fast k=some bs->∀ x ∈ bs,0<=x/\x<256)->∀ k bs,D'.fast k=some bs->∀ x ∈ bs,0<=x/\x<256
end Go.Sg
namespace Go.Proofs.YtgdhaaokolfdoaaGreatDoor
section
open Go.RowKit Go.Sg Go.Sg.Bits Go.Sg.Clk CP SF
def lp0 (x:Sto):aQ0:=fun s=>if x.first<=s/\(s-x.first).toNat<x.pages/\x.taken (s-x.first).toNat=true/\x.dead ((s-x.first).toNat:Int)=false then x.dev.fast s else none
theorem jC0 (x:Sto)(k:Nat):lp0 x (x.first+k)=if k<x.pages/\x.taken k=true/\x.dead k=false then x.dev.fast (x.first+k) else none:=by
 have h:(x.first+(k:Int)-x.first).toNat=k:=oM
 unfold lp0;rw[h];by_cases c:k<x.pages/\x.taken k=true/\x.dead k=false
 ·rw[if_pos c,if_pos ⟨oM,c⟩]
 ·rw[if_neg c,if_neg (fun e=>c e.2)]
theorem pk0 {x:Sto}{s:Int}{v:List Int}(h:lp0 x s=some v):x.dev.fast s=some v:=by
 unfold lp0 at h;split at h
 ·exact h
 ·cases h
def wy0 (B:Blk)(y:Cs)(P:aC0)(a:Bool)(N:Nat)(w w':World):Prop:=
 ∃ n,∃ P':aQ0,aw0 w' (Blk.next B n) y.commit P' a N/\w.heap.size<=n/\∀ k:Nat,k<y.pages->y.taken k=true->y.dead k=false ->
  (∀ st bs,y.cont k=some (st,bs)->P' (y.first+k)=some (af0 y.size 2 k st bs))/\∀ v,P (y.first+k)=some v->P' (y.first+k)=some v
theorem tS0 {w:World}{B:Blk}{y:Cs}{P:aC0}{a:Bool}{N:Nat}(h:cZ0 2 w B y P a N)(hg:y.gen<2199023255552) :
  Calls Tryz.prog 37 #[B.ptr] w fun e w'=>e = .returned (.tuple #[])/\FrB B w w'/\wy0 B y P a N w w':=by
 obtain⟨⟨x,c,hS,rfl,hi,hl1,hl2⟩,hT,hb⟩:=h;have hcl:=hl1 oM;have hlo:=hl2 oM;have hap:=hi.apart;refine (qQ0 hS (fun k hk=>?_) hg).mono ?_
 ·obtain⟨n,rfl⟩:=iZ (hS.inr.2.2 k hk).1;exact hap.et n hk
 rintro e w' ⟨n,he,hS',F,hn⟩;have hh:=hi.holds.frB F;have hsec:∀ k:Nat,∀ st bs,c k=some (st,bs)->x.dev.sec (x.first+k)=af0 x.dev.size 2 k st bs:=fun k st bs hk=>by
  cases hm:x.mem k with
  | none=>have:=hi.holds.dev k st bs hk hm;simpa using this
  | some q =>
   obtain⟨s0,b0,a1,_,_,_,a5⟩:=hi.holds.mem k q hm;rw[hk] at a1;cases a1;have:=a5 (hcl k q hm);simpa using this
 refine⟨he,F,n,lp0 x,⟨⟨_,fun k=>if x.dead k then none else c k,hS',rfl,hi.down,⟨hi.dev.acts,hi.dev.many,hi.dev.len,fun k v hv=>⟨pk0 (x:=x) hv,by show ∀ y ∈ x.dev.loose,_;rw[hlo];intro y hy;cases hy⟩,hi.dev.armed,hi.dev.calm,hi.dev.byt⟩,⟨fun k s b hk=>?_,fun k q hq=>?_,fun k s b hk hm=>?_⟩,fun _ k hk hne=>?_,?_,hi.few⟩,hT.fr F (fun h=>oM),hb⟩,hn,fun k hk ht hd=>⟨fun st bs hc=>?_,fun v hv=>?_⟩⟩
 ·split at hk
  ·cases hk
  ·exact hh.ok k s b hk
 ·have hq':(if x.dead k then none else x.mem k)=some q:=hq;split at hq'
  ·cases hq'
  ·rename_i hdk;obtain⟨s0,b0,a1,a2,a3,a4,a5⟩:=hh.mem k q hq';refine⟨s0,b0,by rw[if_neg hdk];exact a1,a2,a3,fun hdi=>?_,a5⟩;rw[hcl k q hq'] at hdi;cases hdi
 ·split at hk
  ·cases hk
  ·rename_i hdk;have hm':(if x.dead k then none else x.mem k)=none:=hm;rw[if_neg hdk] at hm';exact hh.dev k s b hk hm'
 ·have hne':lp0 x (x.first+k)≠none:=hne;rw[jC0] at hne';split at hne'
  ·rename_i hc;refine⟨?_,rfl⟩;show (x.taken k && !x.dead k)=true;rw[hc.2.1,hc.2.2];rfl
  ·exact absurd rfl hne'
 ·refine⟨fun k hk=>(by cases hk),fun k hk=>(by cases hk),fun k hk=>?_,fun k hk=>(by cases hk),fun k hk=>by cases hk⟩;have hk':x.dying k=true:=hk;show (x.taken k && !x.dead k)=true;rw[hap.yt k hk',hap.ye k hk'];rfl
 ·show lp0 x (x.first+k)=_;rw[jC0,if_pos ⟨hk,ht,hd⟩];exact mZ0 hlo (fun n=>oK0) (hsec k st bs hc)
 ·show lp0 x (x.first+k)=_;rw[jC0,if_pos ⟨hk,ht,hd⟩];exact (hi.dev.prot _ v hv).1
end
section
open Go.RowKit Go.Sg
theorem gl0 (W:World)(B:Nat)(hB:B<=W.heap.size)(e:TypeId)(size:Nat)(v:Value)(h:v = .slice (some ⟨W.heap.size,0,none⟩) 0 0):(W.alloc (.cells #[] e)).ownsRow B e size v 0 []:=by
 subst h;exact World.ownsRow_lit W #[] 0 hB (la9 _) sP
