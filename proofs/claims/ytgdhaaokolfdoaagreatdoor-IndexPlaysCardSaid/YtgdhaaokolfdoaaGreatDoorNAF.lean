/- A pack of texts. Conditions: those that each names. -/
import Derived.Test.YtgdhaaokolfdoaaGreatDoorNAD
import Derived.Deep.RegionHeld3
set_option maxHeartbeats 16000000
set_option linter.all false
namespace Go.Sg
open Go.RowKit
structure LRs (w0 w:World)(r bx:Nat)(bs:List Int)(k p s:Int)(l:Value):Prop where
 x:w.heap[bx]?=some (.cells #[.int .i64 k,.int .i64 p,.int .i64 s,l] 166)
 rd:fj0 w r bs false
 f:Fq w0 w
 le:w0.heap.size<=r/\w0.heap.size<=bx
variable {w w' w0:World}{bx r:Nat}{bs:List Int}{k p s:Int}{l:Value}
theorem LRs.ne (h:LRs w0 w r bx bs k p s l):bx≠r:=by
 intro e;obtain⟨a,c,hr,_⟩:=h.rd.ex;rw[<- e,h.x] at hr;cases hr
theorem LRs.call {bs':List Int}(h:LRs w0 w r bx bs k p s l)(F:Fr (fun b=>b=r) w w')(hr:fj0 w' r bs' false):LRs w0 w' r bx bs' k p s l:=
 ⟨F.heap h.x h.ne,hr,h.f.trans (S':=fun b=>b=r) F (fun b hb e=>by have:=h.le.1;omega),h.le⟩
theorem fj0.fr {S:Nat->Prop}{bad:Bool}(h:fj0 w r bs bad)(F:Fr S w w')(h1:¬ S r)(h2:∀ b c,w.heap[b]?=some (.cells c 5)->¬ S b):fj0 w' r bs bad:=by
 obtain⟨⟨a,c,hr,hb,hc⟩,hs⟩:=h;exact⟨⟨a,c,F.heap hr h1,hb.fr F h2,hc⟩,hs⟩
theorem LRs.set (h:LRs w0 w r bx bs k p s l)(o:Nat)(v:Value){k' p' s':Int}{l':Value}
  (he:(#[.int .i64 k,.int .i64 p,.int .i64 s,l]:Array Value).setIfInBounds o v=#[.int .i64 k',.int .i64 p',.int .i64 s',l']):LRs w0 (w.setCell ⟨bx,o,none⟩ v) r bx bs k' p' s' l':=by
 have F:Fr (fun b=>b=bx) w (w.setCell ⟨bx,o,none⟩ v):=(Fr.refl (fun b=>b=bx) _).setCell (a:=⟨bx,o,none⟩) (fun _=>rfl) _;refine⟨?_,h.rd.fr F (fun e=>h.ne e.symm) (fun b c hc e=>by rw[e,h.x] at hc;cases hc),h.f.trans (S':=fun b=>b=bx) F (fun b hb e=>by have:=h.le.2;omega),h.le⟩;rw[hsc _ _ _ _ h.x,he]
end Go.Sg
namespace Go.Proofs.YtgdhaaokolfdoaaGreatDoor
section
open Go.RowKit Go.Sg
theorem yV0 {w:World}{r:Nat}{bs:List Int}{bad:Bool}(h:fj0 w r bs bad):Calls Tryz.prog 218 #[.pointer (some ⟨r,0,none⟩)] w fun e w'=>e = .returned (.bool bad)/\w=w':=by
 obtain⟨⟨a,c,hr,hb,hc⟩,hs⟩:=h;have c1:=coh hr 1;simp at c1;clear hr hb hc hs;go_enter Tryz.func218,Tryz.ntmps218;go_wp2
 go_ret;exact⟨rfl,rfl⟩
end
section
open Go.RowKit Go.Sg Go.Sg.Bits CP
structure SC (w:World)(B:Blk)(x:Sto):Prop where
 c0:w.cell? ⟨B.s,0,none⟩=some (.pointer (some ⟨B.d,0,none⟩))
 c9:w.cell? ⟨B.s,9,none⟩=some (.int .i64 x.first)
 c10:w.cell? ⟨B.s,10,none⟩=some (.int .i64 x.pages)
 c11:w.cell? ⟨B.s,11,none⟩=some (.int .i64 x.room)
 c12:w.cell? ⟨B.s,12,none⟩=some (.int .i64 x.gen)
 c13:w.cell? ⟨B.s,13,none⟩=some (.pointer (some ⟨B.bs,0,none⟩))
 c14:w.cell? ⟨B.s,14,none⟩=some (.map (some B.fr))
 c15:w.cell? ⟨B.s,15,none⟩=some (.map (some B.dy))
 c16:w.cell? ⟨B.s,16,none⟩=some (.map (some B.de))
 c17:w.cell? ⟨B.s,17,none⟩=some (.pointer (some ⟨B.bc,0,none⟩))
 z:∀ o,w.frozen? ⟨B.s,o,none⟩=false
 lt:B.s<w.heap.size
theorem ax0.sc {w:World}{B:Blk}{x:Sto}(h:ax0 w B x):SC w B x:=
 ⟨by simpa using coh h.s 0,by simpa using coh h.s 9,by simpa using coh h.s 10,by simpa using coh h.s 11,by simpa using coh h.s 12,by simpa using coh h.s 13,
  by simpa using coh h.s 14,by simpa using coh h.s 15,by simpa using coh h.s 16,by simpa using coh h.s 17,fun o=>foh h.s o,loh h.s⟩
namespace SF
variable {w:World}{B:Blk}{x:Sto}
theorem rm0 (h:ax0 w B x)(p st:Int)(h0:0<=p)(h1:p<x.pages) :
  Calls Tryz.prog 85 #[B.ptr,.agg #[.int .i64 p,.int .i64 st]] w fun e w'=>e = .returned (.int .i64 0)/\Fq w w':=by
 have c10:=h.sc.c10;have l:=h.sc.lt;clear h;go_enter Tryz.func85,Tryz.ntmps85;go_wp2
 go_quiet (fail)
 go_wp2
 go_ret;exact⟨rfl,((Fr.refl _ _).alloc _).drewN _⟩
theorem yK0 (h:ax0 w B x):Calls Tryz.prog 31 #[B.ptr] w fun e w'=>e = .returned (.int .i64 x.gen)/\w=w':=by
 have c:=h.sc.c12;clear h;go_enter Tryz.func31,Tryz.ntmps31;go_wp2
 go_ret;exact⟨rfl,rfl⟩
theorem wN0 (h:ax0 w B x):Calls Tryz.prog 23 #[B.ptr] w fun e w'=>∃ c:Nat,e = .returned (.int .i64 c)/\(c<=x.places/\∀ L,tm0 x.mem L->c<=L.length)/\w=w':=by
 have c:=h.sc.c17;have H:=hid (rd0 h.mem);clear h;go_enter Tryz.func23,Tryz.ntmps23;go_wp2_with (go_at_call 84;refine H.out.mono ?_;rintro e w' ⟨c,rfl,hc,rfl⟩)
 go_ret;exact⟨c,rfl,hc,rfl⟩
end SF
end
section
open Go.RowKit Go.Sg Go.Sg.Bits Go.Sg.Clk CP
namespace SF
theorem zT0 {B:Blk}{b:Nat}(h:b=B.bc\/b=B.bp\/b=B.bm):∃ r ∈ [cE0.bc,cE0.bp,cE0.bm],b=B.at_ r:=by
 rcases h with rfl|rfl|rfl
 ·exact⟨.bc,by simp,rfl⟩
 ·exact⟨.bp,by simp,rfl⟩
 ·exact⟨.bm,by simp,rfl⟩
theorem keep_any {R:Ending->World->Prop}{w:World}{B:Blk}{x:Sto}(h:ax0 w B x)(n:Int)(p:Pg)
  (h0:∀ W g,cc0 x.mem x.places n g->(gV g).dirty=false->bL0 W B.bc B.bp B.bm x.places (ej0 x.mem n p g)->FrR B [.bc,.bp,.bm] w W->R (.returned (.int .i64 0)) W)
  (h1:∀ W g,cc0 x.mem x.places n (some g)->g.2.dirty=true->bL0 W B.bc B.bp B.bm x.places (ej0 x.mem n p (some g))->FrR B [.bc,.bp,.bm] w W->Calls Tryz.prog 110 #[B.ptr,.int .i64 g.1,g.2.val] W fun e W'=>∃ err:Int,e = .returned (.int .i64 err)/\R e W') :
  Calls Tryz.prog 82 #[B.ptr,.int .i64 n,p.val] w R:=by
 obtain⟨st,la,ll,lc,di⟩:=p;have c17:=h.sc.c17;have l:=h.sc.lt;obtain⟨w1,hw1⟩:=eX (w.alloc (.cells #[.int .i64 st,.slice la ll lc,.bool di] 162))
 have F1:Fq w w1:=by rw[<- hw1];exact (Fr.refl _ _).alloc _
 have b1:w1.heap[w.heap.size]?=some (.cells #[.int .i64 st,.slice la ll lc,.bool di] 162):=by rw[<- hw1];exact han _ _
 obtain⟨d0,d1,d2,dz,dl⟩:=cells3 b1;have c17':=(F1.cell (p:=⟨B.s,17,none⟩) l id).trans c17;have l':=nLL l F1.size;have HP:=hid (fun W (F:Fq w1 W)=>(lV0 (h.mem.fr (F1.trans F nI) id id id) n ⟨st,la,ll,lc,di⟩).mono
  (fun (e:Ending) W' ⟨g,hg,he,hm,F'⟩=>(⟨g,hg,he,hm,Fr.trans (S:=fun b=>b=B.bc\/b=B.bp\/b=B.bm) (S':=fun b=>b=B.bc\/b=B.bp\/b=B.bm) (F.mono nE) F' nI,F'⟩ :
   ∃ g,cc0 x.mem x.places n g/\e=Ending.returned (.tuple #[.int .i64 (gK g),(gV g).val,.bool g.isSome])/\bL0 W' B.bc B.bp B.bm x.places (ej0 x.mem n ⟨st,la,ll,lc,di⟩ g)/\Fr (fun b=>b=B.bc\/b=B.bp\/b=B.bm) w1 W'/\Fr (fun b=>b=B.bc\/b=B.bp\/b=B.bm) W W')))
 have nS:¬ (B.s=B.bc\/B.s=B.bp\/B.s=B.bm):=by
  have a1:=h.out (L:=[.bc,.bp,.bm]) (r:=.s) dC;simpa[Blk.at_] using a1
 have nW:¬ (w.heap.size=B.bc\/w.heap.size=B.bp\/w.heap.size=B.bm):=by
  have:=h.mem.lts;omega
 have NX:=hid (show ¬ (w1.heap.size=B.bc\/w1.heap.size=B.bp\/w1.heap.size=B.bm) by have:=h.mem.lts;omega);have NS:=hid nS;have NW:=hid nW;clear nS nW;have m1:¬ w1.heap.size=B.s:=oM
 have m2:¬ w1.heap.size=w.heap.size:=oM
 have HW:=hid hw1;have H0:=hid h0;have H1:=hid h1;have HF1:=hid F1;clear h h0 h1 c17 hw1 b1 F1;go_enter Tryz.func82,Tryz.ntmps82;go_wp2
 rw[HW.out];go_region_held3 (fun W=>W.cell? ⟨B.s,17,none⟩=some (.pointer (some ⟨B.bc,0,none⟩))/\W.cell? ⟨w.heap.size,0,none⟩=some (.int .i64 st)/\W.cell? ⟨w.heap.size,1,none⟩=some (.slice la ll lc)/\W.cell? ⟨w.heap.size,2,none⟩=some (.bool di))
  (go_keep)
  ((go_at_call 111;refine (HP.out _ (by first|exact ((Fr.refl _ _).alloc _)|exact (Fr.refl _ _)|exact ((Fr.refl _ _).drew)|exact ((Fr.refl _ _).alloc _).drew|exact ((Fr.refl _ _).drew.alloc _))).mono ?_;rintro e w7 ⟨g,hg,rfl,hm,F7,F8⟩;have e0:=fun (i:Nat) (hh:w1.heap.size<_)=>F8.cell (p:=⟨w1.heap.size,i,none⟩) hh NX.out;have ez:=fun (i:Nat) (hh:w1.heap.size<_)=>World.frozen?_of_block (a:=⟨w1.heap.size,i,none⟩) (F8.block w1.heap.size hh NX.out);have el:=F8.size;have el7:=F7.size;have m3:¬ w7.heap.size=B.s:=oM;have m4:¬ w7.heap.size=w.heap.size:=oM;have c17':=(F7.cell (p:=⟨B.s,17,none⟩) l' NS.out).trans c17';have d0:=(F7.cell (p:=⟨w.heap.size,0,none⟩) dl NW.out).trans d0;have d1:=(F7.cell (p:=⟨w.heap.size,1,none⟩) dl NW.out).trans d1;have d2:=(F7.cell (p:=⟨w.heap.size,2,none⟩) dl NW.out).trans d2;have HF7:=hid F7;have HM:=hid hm;have HG:=hid hg;clear F7 hm hg F8))
 all_goals clear m1 m2 m3 m4
 all_goals rcases g with _|⟨gk,⟨gst,ga,gl,gc,gd⟩⟩
 all_goals try simp only[gK,gV,Option.map_none,mC9,Option.getD_none,nr9,Option.isSome_none,Option.isSome_some,Pg.zero]
 all_goals have FA:FrR B [.bc,.bp,.bm] w w7:=(HF1.out.mono nE).trans HF7.out (fun b _ h=>zT0 h)
 all_goals have FA:=hid FA
 ·go_wp2
  exact H0.out _ none HG.out rfl (HM.out.fr ((Fr.refl (fun _=>False) _).alloc _) id id id) (FA.out.alloc _)
 ·cases gd with
  | false =>
   go_wp2
   exact H0.out _ _ HG.out rfl (HM.out.fr ((Fr.refl (fun _=>False) _).alloc _) id id id) (FA.out.alloc _)
  | true =>
   go_wp2_with fail
   refine (H1.out _ _ HG.out rfl (HM.out.fr ((Fr.refl (fun _=>False) _).alloc _) id id id) (FA.out.alloc _)).mono ?_;rintro e w9 ⟨err,rfl,hR⟩;have HR:=hid hR;clear hR;go_wp2
   exact HR.out
 ·go_wp2
  exact H0.out _ none HG.out rfl (HM.out.fr (Fr.qt0 (S:=fun b=>b=w1.heap.size) (b:=w1.heap.size) (Fr.refl _ _) rfl _ _ _) (fun h=>NX.out (.inl h.symm)) (fun h=>NX.out (.inr (.inl h.symm))) (fun h=>NX.out (.inr (.inr h.symm)))) (Fr.lT0 FA.out oM _ _ _)
 ·cases gd with
  | false =>
   go_wp2
   exact H0.out _ _ HG.out rfl (HM.out.fr (Fr.qt0 (S:=fun b=>b=w1.heap.size) (b:=w1.heap.size) (Fr.refl _ _) rfl _ _ _) (fun h=>NX.out (.inl h.symm)) (fun h=>NX.out (.inr (.inl h.symm))) (fun h=>NX.out (.inr (.inr h.symm)))) (Fr.lT0 FA.out oM _ _ _)
  | true =>
   go_wp2_with fail
   refine (H1.out _ _ HG.out rfl (HM.out.fr (Fr.qt0 (S:=fun b=>b=w1.heap.size) (b:=w1.heap.size) (Fr.refl _ _) rfl _ _ _) (fun h=>NX.out (.inl h.symm)) (fun h=>NX.out (.inr (.inl h.symm))) (fun h=>NX.out (.inr (.inr h.symm)))) (Fr.lT0 FA.out oM _ _ _)).mono ?_;rintro e w9 ⟨err,rfl,hR⟩;have HR:=hid hR;clear hR;go_wp2
   exact HR.out
end SF
variable {W w:World}{B:Blk}{x:Sto}
theorem ax0.nm0 (h:ax0 w B x)(F:FrR B [.bc,.bp,.bm] w W){m:Int->Option Pg}(hm:bL0 W B.bc B.bp B.bm x.places m)
  (hl:∀ k p,m k=some p->∃ bs,ByV W p.la p.ll p.lc bs/\bs.length<=x.room):ax0 W B { x with mem:=m }:=by
 have S:=h.stays F;exact⟨S.s dC,S.dev dC dC dC,S.bits dC dC,S.fr dC,S.dy dC,S.de dC,hm,hl,h.ne,h.ge,h.rg,h.inr⟩
theorem ix0 (h:ax0 w B x){L:List cE0}(F:FrR B L w W){n:Int}{p:Pg}{g:Option (Int × Pg)}(hp:∃ bs,ByV w p.la p.ll p.lc bs/\bs.length<=x.room) :
  ∀ k q,ej0 x.mem n p g k=some q->∃ bs,ByV W q.la q.ll q.lc bs/\bs.length<=x.room:=by
 intro k q hq;unfold ej0 at hq;split at hq
 ·cases hq;obtain⟨bs,hb,hl⟩:=hp;exact⟨bs,h.byv F hb,hl⟩
 ·split at hq
  ·cases hq
  ·obtain⟨bs,hb,hl⟩:=h.load k q hq;exact⟨bs,h.byv F hb,hl⟩
namespace SF
variable {B:Blk}{w w':World}{x:Sto}{g:Option (Int × Pg)}{D:Dev}{err:Int}
theorem nj0 (h:lG0 w x g D err)(F:FrB B w w'):lG0 w' x g D err:=by
 cases g with
 | none=>exact h
 | some g =>
  obtain⟨k,q⟩:=g;unfold lG0 at h ⊢;simp only at h ⊢;split
  ·rename_i hd;rw[if_pos hd] at h;obtain⟨bs,hb,he⟩:=h;exact⟨bs,hb.frB F,he⟩
  ·rename_i hd;rw[if_neg hd] at h;exact h
theorem eb0 (h:lG0 w x g D err){k:Nat}(F:Fr (fun b=>b=k) w w'){cs:Array Value}{t:TypeId}(hk:w.heap[k]?=some (.cells cs t))(ht:t≠5):lG0 w' x g D err:=by
 cases g with
 | none=>exact h
 | some g =>
  obtain⟨k,q⟩:=g;unfold lG0 at h ⊢;simp only at h ⊢;split
  ·rename_i hd;rw[if_pos hd] at h;obtain⟨bs,hb,he⟩:=h;exact⟨bs,hb.frL F hk ht,he⟩
  ·rename_i hd;rw[if_neg hd] at h;exact h
def Inp (w:World)(B:Blk)(a:Option Addr)(n c:Nat)(bs:List Int):Prop:=SlB w a n c bs/\∀ b off,a=some ⟨b,off,none⟩->n=0\/b<B.base\/kd w b=6
def tk (x:Sto)(n:Nat):Sto:={ x with taken:=upd x.taken n true,hand:=(n+1) % x.pages,fresh:=ed0 x.fresh n true }
def vF0 (err:Int)(n st:Int):Value:=if err=0 then .agg #[.int .i64 n,.int .i64 st] else .agg #[.int .i64 0,.int .i64 0]
def lC0 (B:Blk)(x:Sto)(bs:List Int)(w:World)(e:Ending)(w':World):Prop:=
 ∃ n err g D p,br0 x.taken x.pages x.hand n/\e = .returned (.tuple #[vF0 err n x.gen,.int .i64 err])/\cc0 x.mem x.places n g/\lG0 w' x g D err /\
  ax0 w' B { tk x n with mem:=ej0 x.mem n p g,dev:=D }/\(p.stamp=x.gen/\p.dirty=true/\ByV w' p.la p.ll p.lc bs)/\FrB B w w'
theorem oy0 (h:ax0 w B x)(hT:Tab w)(hB0:0<B.base){la:Option Addr}{ll lc:Nat}{bs:List Int}(hin:Inp w B la ll lc bs)(hl:ll<=x.room){j:Nat}(hj:j<x.pages)(hfree:x.taken j=false)
  (hk:∀ W p n,br0 x.taken x.pages x.hand n->ax0 W B (tk x n)->FrB B w W->(∃ bs,ByV W p.la p.ll p.lc bs/\bs.length<=x.room)->Calls Tryz.prog 82 #[B.ptr,.int .i64 n,p.val] W (lE0 B (tk x n) n p W)) :
  Calls Tryz.prog 22 #[B.ptr,.slice la ll lc] w (lC0 B x bs w):=by
 have c11:=h.sc.c11;have c12:=h.sc.c12;have c13:=h.sc.c13;have c14:=h.sc.c14;have l:=h.sc.lt;have hlen:=hin.1.by_.len;have hrm:=h.rg.1;obtain⟨w1,hw1⟩:=eX (w.alloc (.cells #[.int .i64 0,.int .i64 0] 35))
 have F1:Fq w w1:=by rw[<- hw1];exact (Fr.refl _ _).alloc _
 have b1:w1.heap[w.heap.size]?=some (.cells #[.int .i64 0,.int .i64 0] 35):=by rw[<- hw1];exact han _ _
 have HTK:=hid (sG0 (h.bits.fr F1 id id) (hT.fr F1 id) hj hfree);have H:=hid h;have HIN:=hid hin;have HK:=hid hk;have HW:=hid hw1;have HF1:=hid F1;have HB1:=hid b1;have HL:=hid hlen;clear h hT hin hk hw1 F1 b1 hfree hlen;go_enter Tryz.func22,Tryz.ntmps22;go_wp2_with fail
 rw[HW.out];refine HTK.out.mono ?_;rintro e w2 ⟨n,hn,rfl,hbits,F2⟩;have F02:FrR B [.bs,.bw] w w2:=(HF1.out.mono nE).trans F2 (fun b _ h=>by
  rcases h with rfl|rfl
  ·exact⟨.bs,by simp,rfl⟩
  ·exact⟨.bw,by simp,rfl⟩)
 have nbx:∀ r,w.heap.size≠B.at_ r:=fun r e=>by have:=(H.out.heaps r).2.2.1;omega
 have hb2:=F2.heap HB1.out (fun h=>by rcases h with h|h;exact nbx .bs h;exact nbx .bw h);have S2:=H.out.stays F02;have s2:=S2.s dC;obtain⟨lf,ck,hfm,hfs⟩:=(S2.fr dC).ex;have e12:w2.cell? ⟨B.s,12,none⟩=some (.int .i64 x.gen):=by simpa using coh s2 12
 have e14:w2.cell? ⟨B.s,14,none⟩=some (.map (some B.fr)):=by simpa using coh s2 14
 have hup:=fun (W:World) (hW:W.heap[B.fr]?=some (.map (ents lf) ck))=>bg0 (P:=Tryz.prog) (T:=153) Tryz.underlying153 Tryz.underlying3 hW n (.bool true)
 have HB2:=hid hb2;have NBX:=hid nbx;clear hb2 nbx;have HN:=hid hn;have HBI:=hid hbits;have HF02:=hid F02;have HS2:=hid S2;have Hs2:=hid s2;have HFS:=hid hfs;clear hn hbits F2 F02 S2 s2 hfs;go_wp2
 obtain⟨w3,hw3⟩:=eX (w2.putObj B.fr (.map (ents (put lf n (.bool true) ck)) (bump lf n ck)))
 have F23:Fr (fun b=>b=B.fr) w2 w3:=by rw[<- hw3];exact (Fr.refl (fun b=>b=B.fr) _).putObj (fun _=>rfl) _
 have hf3:w3.heap[B.fr]?=some (.map (ents (put lf n (.bool true) ck)) (bump lf n ck)):=by rw[<- hw3];exact aR0 _ _ _ (loh hfm)
 rw[hw3];have HB3:=hid (F23.heap HB2.out (NBX.out .fr));have F03:FrR B [.bs,.bw,.fr] w w3:=(HF02.out.mono (fun b _ ⟨r,hr,e⟩=>⟨r,by simp at hr ⊢;rcases hr with h|h <;> simp[h],e⟩)).trans F23 (fun b _ h=>⟨.fr,by simp,h⟩);have n1:B.bs≠B.fr:=fun e=>by have:=H.out.inj (r:=.bs) (r':=.fr) e;cases this
 have n2:B.bw≠B.fr:=fun e=>by have:=H.out.inj (r:=.bw) (r':=.fr) e;cases this
 have S3:=H.out.stays F03;have nn:=HN.out.1;have hS3:ax0 w3 B (tk x n):=by
  refine⟨S3.s dC,S3.dev dC dC dC,HBI.out.fr F23 n1 n2,⟨_,_,hf3,HFS.out.put n⟩,S3.dy dC,S3.de dC,S3.mem dC dC dC,S3.load,H.out.ne,H.out.ge,H.out.rg,?_,H.out.inr.2⟩;intro k hk;show 0<=k/\k<x.pages;by_cases hkn:k=n
  ·omega
  ·exact H.out.inr.1 k (by simpa[tk,ed0,hkn] using hk)
 have e12:w3.cell? ⟨B.s,12,none⟩=some (.int .i64 x.gen):=hS3.sc.c12;have hsl:SlB w3 la ll lc bs:=by
  refine⟨HIN.out.1.by_.frn F03 ?_,HIN.out.1.at_⟩;rintro b off e-hn0 ⟨r,_,rfl⟩;have hh:=H.out.heaps r;rcases HIN.out.2 _ off e with h|h|h
  ·omega
  ·omega
  ·rw[hh.2.2.2] at h;cases r <;> simp[cE0.kind] at h
 have HC:=hid (fun W (F:Fq w3 W)=>(fi0 (w:=W) ⟨hsl.by_.fr F (fun _ _ _ _ h=>h),hsl.at_⟩ oM).mono
  (fun (e:Ending) W' ⟨a',c',he,hb,F'⟩=>(⟨a',c',he,hb,F.trans F' nI⟩:∃ a' c',e=Ending.returned (.slice a' ll c')/\ByV W' a' ll c' bs/\Fq w3 W')))
 have ls:B.s<w3.heap.size:=hS3.sc.lt;have HS3:=hid hS3;have HF03:=hid F03;clear hw3 F23 hf3 hup hfm F03 n1 n2 S3 hS3 hsl c11 c12 c13 c14 e14;go_region_held3 (fun W=>W.cell? ⟨B.s,12,none⟩=some (.int .i64 x.gen)) (go_keep)
  (first
   | (go_at_call 83;refine (HC.out _ (by first|exact Fr.refl _ _|exact (Fr.refl _ _).drew)).mono ?_;rintro e w4 ⟨a',c',rfl,hb4,F4⟩;have e12:=(F4.cell (p:=⟨B.s,12,none⟩) ls id).trans e12;have HB4:=hid hb4;have HF4:=hid F4;clear hb4 F4)
   | (go_at_call 82;refine (HK.out _ ⟨x.gen,a',ll,c',true⟩ n HN.out (HS3.out.fr0 HF4.out) ((H.out.frB HF03.out).trans (FrB.none HF4.out)) ⟨bs,HB4.out,by rw[HL.out];exact hl⟩).mono ?_;rintro e w5 ⟨err,g,D,rfl,hg,ho,hS5,F5⟩;have e12:w5.cell? ⟨B.s,12,none⟩=some (.int .i64 x.gen):=hS5.sc.c12;have H5:=hi2 hg (aI ho (aI hS5 F5));clear hg ho hS5 F5))
 obtain⟨hg,ho,hS5,F5⟩:=H5.out;have hb5:=F5.heap (FrB.heap (FrB.none HF4.out) (B:=B) HB3.out dC) dC;obtain⟨f0,f1,fz,fl⟩:=cells2 hb5;have c12:w5.cell? ⟨B.s,12,none⟩=some (.int .i64 x.gen):=hS5.sc.c12;have l5:=hS5.sc.lt;have nb5:¬ w.heap.size=B.s:=oM
 have FF:FrB B w w5:=((H.out.frB HF03.out).trans (FrB.none HF4.out)).trans F5;have hbv5:=HB4.out.frB F5;have H6:=hi2 hg (aI ho (aI hS5 (aI FF (aI hbv5 hb5))));clear hg ho hS5 F5 hb5 FF hbv5 H5;by_cases he:err=0
 ·subst he;go_wp2
  refine bodyPost_ret (v:=.tuple #[.agg #[.int .i64 n,.int .i64 x.gen],.int .i64 0]) sR rfl ?_;obtain⟨hg,ho,hS5,FF,hbv5,hb5⟩:=H6.out;have FL:Fr (fun b=>b=w.heap.size) w5 ((w5.setCell ⟨w.heap.size,0,none⟩ (.int .i64 n)).setCell ⟨w.heap.size,1,none⟩ (.int .i64 x.gen)):=((Fr.refl (fun b=>b=w.heap.size) _).setCell (a:=⟨w.heap.size,0,none⟩) (fun _=>rfl) _).setCell (a:=⟨w.heap.size,1,none⟩) (fun _=>rfl) _;refine⟨n,0,g,D,⟨x.gen,a',ll,c',true⟩,HN.out,rfl,hg,eb0 ho FL hb5 dC,hS5.frL FL hb5 dC,⟨rfl,rfl,hbv5.frL FL hb5 dC⟩,?_⟩;exact (FF.setCell (a:=⟨w.heap.size,0,none⟩) (fun h=>absurd h (mv9 _)) _).setCell (a:=⟨w.heap.size,1,none⟩) (fun h=>absurd h (mv9 _)) _
 ·have he2:(err != 0)=true:=by simpa using he
  go_wp2
  refine bodyPost_ret (v:=.tuple #[.agg #[.int .i64 0,.int .i64 0],.int .i64 err]) sR rfl ?_;obtain⟨hg,ho,hS5,FF,hbv5,hb5⟩:=H6.out;have FL:Fr (fun b=>b=w.heap.size) w5 ((w5.setCell ⟨w.heap.size,0,none⟩ (.int .i64 0)).setCell ⟨w.heap.size,1,none⟩ (.int .i64 0)):=((Fr.refl (fun b=>b=w.heap.size) _).setCell (a:=⟨w.heap.size,0,none⟩) (fun _=>rfl) _).setCell (a:=⟨w.heap.size,1,none⟩) (fun _=>rfl) _;refine⟨n,err,g,D,⟨x.gen,a',ll,c',true⟩,HN.out,by rw[vF0,if_neg he],hg,eb0 ho FL hb5 dC,hS5.frL FL hb5 dC,⟨rfl,rfl,hbv5.frL FL hb5 dC⟩,?_⟩;exact (FF.setCell (a:=⟨w.heap.size,0,none⟩) (fun h=>absurd h (mv9 _)) _).setCell (a:=⟨w.heap.size,1,none⟩) (fun h=>absurd h (mv9 _)) _
end SF
theorem Tryz.xJ0 (w:World):(zeroValue 4).run Tryz.prog w = .ok (.bool false) w:=by kernel_rfl
def rv0 (x:Sto)(n:Nat):Sto:=
 if x.fresh n=true then { x with fresh:=ed0 x.fresh n false,taken:=upd x.taken n false,mem:=tn0 x.mem n none } else { x with dying:=ed0 x.dying n true }
theorem ax0.ner (h:ax0 w B x){r r':cE0}(hr:r≠r'):B.at_ r≠B.at_ r':=fun e=>hr (h.inj e)
namespace SF
theorem pp0 {w:World}{B:Blk}{x:Sto}(h:ax0 w B x){n:Nat}(hn:n<x.pages)(hf:x.fresh n=false) :
  Calls Tryz.prog 89 #[B.ptr,.int .i64 n] w fun e w'=>e = .returned (.tuple #[])/\ax0 w' B (rv0 x n)/\FrR B [.dy] w w':=by
 have c14:=h.sc.c14;have c15:=h.sc.c15;obtain⟨lf,cf,hfm,hfs⟩:=h.fr.ex;obtain⟨ld,cd,hdm,hds⟩:=h.dy.ex;have hl:=bF0 (P:=Tryz.prog) (T:=153) false Tryz.underlying153 Tryz.underlying3 Tryz.xJ0 hfm n;rw[hfs.at_,hf] at hl;simp at hl;have hup:=bg0 (P:=Tryz.prog) (T:=153) Tryz.underlying153 Tryz.underlying3 hdm n (.bool true);have H:=hid h;have HD:=hid hds;have HM:=hid hdm;have HF:=hid hf;clear h hfm hfs hds hf hdm;go_enter Tryz.func89,Tryz.ntmps89;go_wp2
 refine bodyPost_ret (results_none rfl _ _ _) rfl ?_;have F:FrR B [.dy] w (w.putObj B.dy (.map (ents (put ld n (.bool true) cd)) (bump ld n cd))):=(Fr.refl _ _).putObj (fun _=>⟨.dy,by simp,rfl⟩) _;refine⟨rfl,?_,F⟩;have S:=H.out.stays F;have e:rv0 x n={ x with dying:=ed0 x.dying n true }:=by rw[rv0,HF.out];rfl
 rw[e];refine⟨S.s dC,S.dev dC dC dC,S.bits dC dC,S.fr dC,⟨_,_,aR0 _ _ _ (loh HM.out),HD.out.put n⟩,S.de dC,S.mem dC dC dC,S.load,H.out.ne,H.out.ge,H.out.rg,H.out.inr.1,?_,H.out.inr.2.2⟩;intro k hk;show 0<=k/\k<x.pages;by_cases hkn:k=n
 ·omega
 ·exact H.out.inr.2.1 k (by simpa[ed0,hkn] using hk)
end SF
