/- A pack of texts. Conditions: those that each names. -/
import Derived.Test.YtgdhaaokolfdoaaGreatDoorNBI
import Derived.Test.YtgdhaaokolfdoaaGreatDoorNBL
set_option maxHeartbeats 16000000
set_option maxRecDepth 100000
set_option linter.all false
namespace Go.Proofs.YtgdhaaokolfdoaaGreatDoor
section
open Go.RowKit Go.Sg Go.Sg.Bits Go.Sg.Clk CP SF
structure Cmt (P:aQ0)(x:aL0)(t:Tr):Prop where
 ex:∃ (y:Cs) (au0:List Rf) (L:List Bp),fC0 y x au0 (t.slots x.depth)/\(∀ q ∈ L,aF0 q.1/\y.cont q.1.1=some (q.1.2.toNat,q.2))/\L.Perm (lds t 0 0)/\(pgs x.rp au0++bpg L).Nodup/\y.room=77/\∀ k ∈ pgs x.rp au0++bpg L,∃ st bs,y.cont (k:Int)=some (st,bs)/\jZ0 108 77 k st bs/\P (12+k)=some (af0 96 2 k st bs)
 high:t.high=x.depth
 ok:okT t 0 0
 per:x.per=6/\x.most=3
variable {w:World}{B:Blk}{y:Cs}{a:Bool}{N g:Nat}{rp rs:Int}
theorem aw0.Bc0 {P:aC0}(h:aw0 w B y P a N){k:Int}{st:Nat}{bs:List Int}(hc:y.cont k=some (st,bs)):jZ0 y.pages y.room k st bs:=by
 obtain⟨x,c,hS,rfl,hi⟩:=h.ex;exact hi.holds.ok k st bs hc
theorem aw0.sizes {P:aC0}(h:aw0 w B y P a N):y.first+y.pages=y.sectors/\y.room+19=y.size:=by
 obtain⟨x,c,hS,rfl,hi⟩:=h.ex;exact⟨hS.rg.2.2.2.1,hS.rg.2.2.2.2⟩
section
variable {w w':World}{B:Blk}{bx bd:Nat}{y:Cs}{P:aQ0}{a:Bool}{N:Nat}{x:aL0}{au0 slots:List Rf}{L:List Bp}{sp:Int}
theorem aD0.Ag0 {P:aC0}(h:aD0 w B bx bd y P a N x au0 slots L sp):∀ k ∈ pgs x.rp au0++bpg L,∃ st bs,y.cont (k:Int)=some (st,bs):=fun k hk=>by
 rcases lb9.1 hk with hk|hk
 ·simp only[pgs,lA9,ld9] at hk;rcases hk with rfl|⟨r,hr,rfl⟩
  ·rw[lL9 h.c.rr.1];exact⟨_,_,h.c.root⟩
  ·rw[lL9 (h.c.leaf.tr r hr).1];obtain⟨i,hi⟩:=lC9.1 hr;exact⟨_,_,h.c.leaf.at_ i r hi⟩
 ·obtain⟨q,hq,rfl⟩:=ld9.1 hk;obtain⟨h1,h2⟩:=h.bk q hq;rw[lL9 h1.1];exact⟨_,_,h2⟩
theorem aD0.wh0 (h:aD0 w B bx bd y P a N x au0 slots L sp)(hl:cZ0 2 w B y P a N)(h8:L.length<=8)(hg:y.gen<2199023255552)(hf:y.first=12) :
  Calls Tryz.prog 37 #[B.ptr] w (fun e w'=>e = .returned (.tuple #[])/\FrB B w w'/\∃ n,∃ P':aQ0,aD0 w' (Blk.next B n) bx bd y.commit P' a N x au0 slots L sp/\∀ k ∈ pgs x.rp au0++bpg L,∃ st bs,y.cont (k:Int)=some (st,bs)/\jZ0 108 77 k st bs/\P' (12+k)=some (af0 96 2 k st bs)):=by
 refine (tS0 hl hg).mono ?_;rintro e w' ⟨rfl,F,n,P',hS,-,hk⟩;have hs:=h.small;have hv:=h.lv;have htl:=h.c.tlen;have hsz:=h.st.sizes;refine⟨rfl,F,n,P',⟨hS,bA0 h.idx F,h.dir.frB F,h.c.we0 (fun k hk=>(hv.tk k (lN9 _ hk)).2.2),(hv.commit ?_).r _,fun q hq=>⟨(h.bk q hq).1,?_⟩,h.len,h.plan,h.pages,h.room,h.places,h.per,h.base⟩,fun k hkm=>?_⟩
 ·simp only[pgs,lA,lC,ln9];omega
 ·obtain⟨h1,h2⟩:=h.bk q hq;obtain⟨m,hm⟩:=iZ h1.1;have hk:=(hv.tk q.1.1.toNat (lu9 _ (ld9.2 ⟨q,hq,rfl⟩))).2.2;rw[hm] at hk h2 ⊢;rw[df0 (by simpa using hk)];exact h2
 ·obtain⟨st,bs,hc⟩:=h.Ag0 k hkm;obtain⟨t1,-,t3⟩:=hv.tk k hkm;have h1:=(hk k (hv.lt k hkm) t1 t3).1 st bs hc;have h2:=h.st.Bc0 hc;rw[h.pages,h.room] at h2;rw[hf,<- hsz.2,h.room] at h1;exact⟨st,bs,hc,h2,h1⟩
end
variable {P:aQ0}{t:Tr}
theorem Cmt.narrow {x:aL0}(h:Cmt P x t):∃ (P':aQ0) (c:Cont) (au0:List Rf) (L:List Bp),(∀ s v,P' s=some v->P s=some v)/\Cmt P' x t /\
  (∀ k st bs,c k=some (st,bs)->jZ0 108 77 k st bs/\P' (12+k)=some (af0 96 2 k.toNat st bs))/\(∀ k:Nat,P' (12+k)≠none->k ∈ pgs x.rp au0++bpg L) /\
  (∀ y':Cs,y'.cont=c->y'.room=77->fC0 y' x au0 (t.slots x.depth)/\(∀ q ∈ L,aF0 q.1/\y'.cont q.1.1=some (q.1.2.toNat,q.2)))/\L.Perm (lds t 0 0)/\(pgs x.rp au0++bpg L).Nodup/\∀ k ∈ pgs x.rp au0++bpg L,k<108:=by
 obtain⟨y,au0,L,hD,hb,hP,hn,hr,hk⟩:=h.ex;obtain⟨pg,hpg⟩:=eX (pgs x.rp au0++bpg L)
 have hin:∀ r ∈ ((x.rp,x.rs) :: au0),r.1.toNat ∈ pg/\0<=r.1:=fun r hr=>by
  rw[<- hpg];rcases lA9.1 hr with rfl|hr
  ·exact⟨lN9 _ (by simp[pgs]),hD.rr.1⟩
  ·exact⟨lN9 _ (by simp only[pgs,lA9,ld9];exact .inr ⟨r,hr,rfl⟩),(hD.leaf.tr r hr).1⟩
 have hib:∀ q ∈ L,q.1.1.toNat ∈ pg/\0<=q.1.1:=fun q hq=>⟨by rw[<- hpg];exact lu9 _ (ld9.2 ⟨q,hq,rfl⟩),(hb q hq).1.1⟩
 rw[hpg] at hn hk;let c:Cont:=fun k=>if 0<=k/\k.toNat ∈ pg then y.cont k else none
 let P':aQ0:=fun s=>if 12<=s/\(s-12).toNat ∈ pg then P s else none
 have hcI:∀ k:Int,0<=k->k.toNat ∈ pg->c k=y.cont k:=fun k h0 h1=>if_pos ⟨h0,h1⟩
 have hPk:∀ k:Nat,k ∈ pg->P' (12+k)=P (12+k):=fun k h1=>if_pos ⟨oM,by rwa [show ((12:Int)+k-12).toNat=k by omega]⟩
 have hbk:∀ q ∈ L,aF0 q.1/\c q.1.1=some (q.1.2.toNat,q.2):=fun q hq=>⟨(hb q hq).1,by rw[hcI _ (hib q hq).2 (hib q hq).1];exact (hb q hq).2⟩
 have hdk:∀ y':Cs,y'.cont=c->y'.room=77->fC0 y' x au0 (t.slots x.depth):=fun y' e1 e2=>hD.keeps (e2.trans hr.symm) (by rw[e1];exact hcI _ (hin _ (List.mem_cons_self ..)).2 (hin _ (List.mem_cons_self ..)).1) (fun r hr=>by rw[e1];exact hcI _ (hin r (lM9 _ hr)).2 (hin r (lM9 _ hr)).1)
 refine⟨P',c,au0,L,fun s v hv=>?_,⟨⟨{ y with cont:=c },au0,L,hdk _ rfl hr,hbk,hP,by rw[hpg];exact hn,hr,fun k hkm=>?_⟩,h.high,h.ok,h.per⟩,fun k st bs hc=>?_,fun k hne=>?_,fun y' e1 e2=>⟨hdk y' e1 e2,by rw[e1];exact hbk⟩,hP,by rw[hpg];exact hn,fun k hkm=>?_⟩
 ·have hv':(if 12<=s/\(s-12).toNat ∈ pg then P s else none)=some v:=hv;split at hv'
  ·exact hv'
  ·cases hv'
 ·rw[hpg] at hkm;obtain⟨st,bs,h1,h2,h3⟩:=hk k hkm;exact⟨st,bs,by show c k=_;rw[hcI _ oM (by simpa using hkm)];exact h1,h2,by rw[hPk k hkm];exact h3⟩
 ·have hc':(if 0<=k/\k.toNat ∈ pg then y.cont k else none)=some (st,bs):=hc;split at hc'
  ·rename_i hm;obtain⟨st',bs',h1,h2,h3⟩:=hk k.toNat hm.2;rw[lL9 hm.1,hc'] at h1;cases h1;rw[lL9 hm.1] at h2;have:=hPk k.toNat hm.2;rw[h3] at this;rw[lL9 hm.1] at this;exact⟨h2,this⟩
  ·cases hc'
 ·have hne':(if (12:Int)<=12+k/\((12:Int)+k-12).toNat ∈ pg then P (12+k) else none)≠none:=hne;split at hne'
  ·rename_i hm;rw[hpg];rw[show ((12:Int)+k-12).toNat=k by omega] at hm;exact hm.2
  ·exact absurd rfl hne'
 ·rw[hpg] at hkm;obtain⟨st,bs,-,h2,-⟩:=hk k hkm;have:=h2.1;omega
theorem sf0 {l1 l2:List Rf}(h1:wq0 l1)(h2:wq0 l2)(hd:∀ q ∈ l1,∀ r ∈ l2,q.1≠r.1):wq0 (l1++l2):=fun i r hi=>by
 rcases lV9 i l1.length with hlt|hge
 ·rw[lh9 hlt] at hi;rcases h1 i r hi with⟨j,rfl,hj⟩|hno
  ·exact .inl ⟨j,rfl,by rw[lh9 oM];exact hj⟩
  ·exact .inr fun j q hj hq=>hno j q hj (by rwa [lh9 oM] at hq)
 ·rw[lk9 hge] at hi;rcases h2 _ r hi with⟨j,hj,hjr⟩|hno
  ·exact .inl ⟨l1.length+j,oM,by rw[lk9 oM,mq9];exact hjr⟩
  ·refine .inr fun j q hj hq=>?_
   rcases lV9 j l1.length with hl|hl
   ·rw[lh9 hl] at hq;exact hd q (gM hq) r (gM hi)
   ·rw[lk9 hl] at hq;exact hno (j-l1.length) q oM hq
variable {l au0:List Rf}
theorem se0 (h:(l.map (·.1)).Nodup):wq0 l:=fun i r hi=>.inr fun j q hj hq e=>by
 have h1:(l.map (·.1))[i]?=some r.1:=by rw[gP,hi];rfl
 have h2:(l.map (·.1))[j]?=some r.1:=by rw[gP,hq,<- e];rfl
 have:=(mG9 (gI.1 h1).1 h).1 (h1.trans h2.symm);omega
theorem ib0:∀ (t:Tr) (g:Nat),t.high<=g->(t.refs.map (·.1)).Nodup->wq0 (t.slots g)
 | .leaf r es,g,_,_=>fun i q hi=>by
  simp only[Tr.slots] at hi ⊢;rw[lF9] at hi;split at hi
  ·rename_i hlt;cases hi;cases i with
   | zero=>exact .inr fun j q hj=>by omega
   | succ j=>exact .inl ⟨j,rfl,by rw[lF9,if_pos oM]⟩
  ·cases hi
 | .node l r,g,hh,hn=>by
  simp only[Tr.high] at hh;simp only[Tr.refs,lt9] at hn;obtain⟨h1,h2,h3⟩:=mg9.1 hn;exact sf0 (ib0 l (g-1) oM h1) (ib0 r (g-1) oM h2) fun q hq q' hq'=>h3 _ (ld9.2 ⟨q,(bz0 l (g-1) q oM).1 hq,rfl⟩) _ (ld9.2 ⟨q',(bz0 r (g-1) q' oM).1 hq',rfl⟩)
theorem ou0 (h:(l.map fun r=>r.1.toNat).Nodup):(l.map (·.1)).Nodup:=by
 unfold List.Nodup at h ⊢;rw[mE9] at h ⊢;exact h.imp fun h e=>h (by rw[e])
variable {L:List Bp}
theorem kk0 (hP:L.Perm (lds t 0 0)):(bpg L).Perm (t.refs.map fun r=>r.1.toNat):=by
 have e:t.refs.map (fun r=>r.1.toNat)=(lds t 0 0).map fun q=>q.1.1.toNat:=by rw[<- gm0 t 0 0,fb0,mP9,mP9];rfl
 rw[e];exact hP.map _
theorem uE0 (hh:t.high<=g)(hP:L.Perm (lds t 0 0))(hn:(pgs rp au0++bpg L).Nodup):wq0 (((rp,rs) :: au0)++t.slots g):=by
 obtain⟨h1,h2,h3⟩:=mg9.1 hn;refine sf0 (se0 (ou0 (l:=(rp,rs) :: au0) h1)) (ib0 t g hh (ou0 ((kk0 hP).nodup_iff.1 h2))) fun q hq r hr e=>?_
 refine h3 q.1.toNat ?_ r.1.toNat ?_ (by rw[e])
 ·exact (show q.1.toNat ∈ List.map (fun r:Rf=>r.1.toNat) ((rp,rs) :: au0) from ld9.2 ⟨q,hq,rfl⟩)
 ·rw[(kk0 hP).mem_iff];exact ld9.2 ⟨r,(bz0 t g r hh).1 hr,rfl⟩
theorem xR0 (hh:t.high<=g)(hP:L.Perm (lds t 0 0))(h0:∀ r ∈ ((rp,rs) :: au0)++t.slots g,0<=r.1)(k:Nat):tkR (((rp,rs) :: au0)++t.slots g) k=true↔k ∈ pgs rp au0++bpg L:=by
 have e1:k ∈ pgs rp au0↔∃ r ∈ (rp,rs) :: au0,r.1.toNat=k:=by
  show k ∈ List.map (fun r:Rf=>r.1.toNat) ((rp,rs) :: au0)↔_;rw[ld9]
 have e2:k ∈ bpg L↔∃ r ∈ t.slots g,r.1.toNat=k:=by
  rw[(kk0 hP).mem_iff,ld9];exact⟨fun⟨r,h,e⟩=>⟨r,(bz0 t g r hh).2 h,e⟩,fun⟨r,h,e⟩=>⟨r,(bz0 t g r hh).1 h,e⟩⟩
 rw[lb9,e1,e2];simp only[tkR,md9,decide_eq_true_eq];constructor
 ·rintro⟨r,hr,e⟩;rcases lb9.1 hr with h|h
  ·exact .inl ⟨r,h,oM⟩
  ·exact .inr ⟨r,h,oM⟩
 ·rintro (⟨r,hr,e⟩|⟨r,hr,e⟩)
  ·exact⟨r,lN9 _ hr,by have:=h0 r (lN9 _ hr);omega⟩
  ·exact⟨r,lu9 _ hr,by have:=h0 r (lu9 _ hr);omega⟩
theorem aw0.shut (h:aw0 w B y ⟨P,true⟩ a N)(hp:∀ k:Nat,k<y.pages->P (y.first+k)≠none->y.taken k=true/\y.fresh k=false):aw0 w B y P a N:=by
 obtain⟨⟨x,c,hS,rfl,hi⟩,hT,hb⟩:=h;exact⟨⟨x,c,hS,rfl,hi.down,hi.dev,⟨hi.holds.ok,hi.holds.mem,hi.holds.dev⟩,fun _ k hk hne=>hp k hk hne,hi.apart,hi.few⟩,hT,hb⟩
structure yl0 (y:Cs)(gen:Nat)(c:Cont):Prop where
 plan:y.plan=aE0
 first:y.first=12
 pages:y.pages=108
 room:y.room=77
 places:y.places=8
 gen:y.gen=gen+1
 cont:y.cont=c
 taken:y.taken=fun _=>false
 fresh:y.fresh=fun _=>false
 dying:y.dying=fun _=>false
 dead:y.dead=fun _=>false
theorem uL0 {P':aQ0}(h:aw0 w B y P false N)(hy:y.first=12/\y.pages=108/\y.room=77)(gen:Nat)(hg:gen<=1099511627776){c:Cont}(hP:∀ s v,P' s=some v->P s=some v)
  (hc:∀ k st bs,c k=some (st,bs)->jZ0 108 77 k st bs/\P' (12+k)=some (af0 96 2 k.toNat st bs)) :
  Calls Tryz.prog 30 #[.pointer (some ⟨B.d,0,none⟩),aE0.val,.int .i64 gen] w (fun e w'=>∃ (B':Blk) (y':Cs),(B'.base=B.base/\B'.d=B.d)/\e = .returned (.tuple #[B'.ptr,.int .i64 0])/\aw0 w' B' y' ⟨P',true⟩ false N/\Fq w w'/\yl0 y' gen c):=by
 have hsz:=h.sizes;have hbl:=h.bs0;obtain⟨⟨x,c0,hS,rfl,hi⟩,hT,hb⟩:=h;have hs1:x.dev.sectors=120:=by have h1:=hsz.1;have h2:x.first=12:=hy.1;have h3:x.pages=108:=hy.2.1;have h1':x.first+(x.pages:Int)=(x.dev.sectors:Int):=h1;omega
 have hs2:x.dev.size=96:=by have h1:=hsz.2;have h3:x.room=77:=hy.2.2;have h1':x.room+19=x.dev.size:=h1;omega
 have hD:=hS.dev;obtain⟨D,hDe⟩:=eX x.dev
 have hdev:=hi.dev;have hdn:=hi.down;rw[hDe] at hD hs1 hs2 hdev hdn;obtain⟨sec,size,fast,loose,armed,acts,down⟩:=D;simp only at hs1 hs2;subst hs1 hs2;refine (rL0 hD hbl 3 2 4 3 8 0 gen hg bU0).mono ?_;rintro e w' ⟨B',⟨e1,e2,e3,e4⟩,rfl,hS',F⟩;refine⟨B',rO0 aE0 gen _ c,⟨e1,e2⟩,rfl,rM0 hS' (hT.fr F id) (by rw[e1];exact hb) (fun h=>by cases h) ⟨hdev.acts,hdev.many,hdev.len,fun k bs hk=>hdev.prot k bs (hP k bs hk),hdev.armed,hdev.calm,hdev.byt⟩ hdn hi.few c (fun k st bs hk=>?_),F,⟨rfl,(show (cd0 aE0).page=12 by decide +kernel),(show (cd0 aE0).pages.toNat=108 by decide +kernel),rfl,rfl,rfl,rfl,rfl,rfl,rfl,rfl⟩⟩;obtain⟨h1,h2⟩:=hc k st bs hk;have h3:=hdev.prot _ _ (hP _ _ h2);refine⟨?_,?_⟩
 ·show jZ0 (cd0 aE0).pages.toNat 77 k st bs;rw[show (cd0 aE0).pages.toNat=108 by decide +kernel];exact h1
 ·show Dev.sec _ ((cd0 aE0).page+k)=af0 96 2 k.toNat st bs;rw[show (cd0 aE0).page=12 by decide +kernel,ge0 h3.2,h3.1];rfl
end
section
open Go.RowKit Go.Sg CP SF
def RxP (g most slots sp:Int)(l:Lb)(w:World)(e:Ending)(w':World):Prop:=∃ v,e = .returned (ixV g most slots v sp)/\OwnB w' 0 v l/\Fq w w'
theorem xi0 (w:World)(most slots:Int):Calls Tryz.prog 74 #[.int .i64 most,.int .i64 slots] w (RxP 0 most slots 0 [(0,0,[])] w):=by
 obtain⟨w1,hw1⟩:=eX (w.alloc (.cells #[.int .i64 0,.int .i64 0,.int .i64 0,.slice none 0 0,.int .i64 0] 137))
 obtain⟨z,hz⟩:=eX w.heap.size
 have F1:Fq w w1:=by rw[<- hw1];exact (Fr.refl _ _).alloc _
 have hs1:w1.heap.size=z+1:=by rw[<- hw1,<- hz];simp
 have HEnd:=hid (show ∀ W0 W',((((w1.setCell ⟨z,0,none⟩ (.int .i64 0)).setCell ⟨z,1,none⟩ (.int .i64 most)).setCell ⟨z,2,none⟩ (.int .i64 slots)).setCell ⟨z,3,none⟩ (.slice (some ⟨w1.heap.size,0,none⟩) 1 1)).setCell ⟨z,4,none⟩ (.int .i64 0)=W0->W0.alloc (.cells #[.int .i64 0,.int .i64 0,.slice none 0 0] 220)=W'->RxP 0 most slots 0 [(0,0,[])] w (.returned (ixV 0 most slots (.slice (some ⟨w1.heap.size,0,none⟩) 1 1) 0)) W' from fun W0 W' h0 hW=>by
  have F:Fr (fun b=>b=z) w1 W0:=by
   rw[<- h0];with_reducible (repeat (first|exact Fr.refl _ _|refine Fr.setCell ?_ (fun _=>by simp) _))
  have hs0:W0.heap.size=w1.heap.size:=by rw[<- h0];simp
  have b1:W'.heap[w1.heap.size]?=some (.cells #[.int .i64 0,.int .i64 0,.slice none 0 0] 220):=by rw[<- hW,<- hs0];exact han _ _
  refine⟨_,rfl,⟨[⟨0,0,none,0,[]⟩],rfl,⟨rfl,.inr ⟨_,1,_,rfl,la9 _,b1,nR _,dC,rfl,rfl⟩⟩,fun x hx=>?_⟩,?_⟩
  ·rw[lQ9] at hx;subst hx;exact World.ownsRow_nil _ _ _ _
  ·rw[<- hW];exact (F1.trans F (fun b hb e=>oM)).alloc _)
 obtain⟨x0,x1,x2,x3,x4,xz,xl⟩:=cells5 (show w1.heap[z]?=some (.cells #[.int .i64 0,.int .i64 0,.int .i64 0,.slice none 0 0,.int .i64 0] 137) by rw[<- hw1,<- hz];exact han _ _);have HW:=hid hw1;have HZ:=hid hz;clear F1 hw1 hz hs1;go_enter Tryz.func74,Tryz.ntmps74;go_upto_region 1 with fail
 rw[HW.out];try simp only[HZ.out]
 go_wp2_with fail
 refine bodyPost_ret (v:=ixV 0 most slots (.slice (some ⟨w1.heap.size,0,none⟩) 1 1) 0) sR rfl ?_;exact HEnd.out _ _ rfl rfl
theorem nv0 {l:List Rb}:∀ u ∈ l.flatMap rbC,u.oneCell'=true:=by
 intro u hu;obtain⟨x,_,hx⟩:=mf9.1 hu;simp[rbC] at hx;rcases hx with rfl|rfl|rfl <;> rfl
variable {V W' w wr:World}{c d h i j p s z:Nat}{g most slots sp:Int}{xs:List Rb}{a:Option Addr}{c0:Array Value}{v v0 v1 v2 v3:Value}
theorem zl0 {m:Nat}{c2:Array Value}(hz:w.heap.size=z)(hF:Fq w wr)(h0:wr.heap[z]?=some (.cells c0 137))(h2:wr.heap[z+1]?=some (.cells c2 137))(hO:wr.ownsRow z 220 3 (.slice a m c) m (xs.flatMap rbC))(hm:xs.length=m)(hE:∀ x ∈ xs,cF0 w 0 x.v x.es)
  (hW:(((((wr.setCell ⟨z,3,none⟩ (.slice a m c)).setCell ⟨z+1,0,none⟩ (.int .i64 g)).setCell ⟨z+1,1,none⟩ (.int .i64 most)).setCell ⟨z+1,2,none⟩ (.int .i64 slots)).setCell ⟨z+1,3,none⟩ (.slice a m c)).setCell ⟨z+1,4,none⟩ (.int .i64 sp)=W') :
  RxP g most slots sp (xs.map Rb.key) w (.returned (ixV g most slots (.slice a m c) sp)) W':=by
 subst hm;have F:Fr (fun b=>b=z\/b=z+1) wr W':=by
  rw[<- hW];with_reducible (repeat (first|exact Fr.refl _ _|refine Fr.setCell ?_ (fun _=>by simp) _))
 have FW:Fq w W':=hF.trans F (fun b hb e=>oM);refine⟨_,rfl,⟨xs,rfl,oRf (ac0 hO oM) F (fun g c' hg e=>?_),fun x hx=>oN (hE x hx) FW⟩,FW⟩;rcases e with e|e
 ·rw[e,h0] at hg;cases hg
 ·rw[e,h2] at hg;cases hg
variable {l m:Lb}
theorem oh0 {l2:Lb}(hB:OwnB w 0 v l)(hB2:OwnB w 0 v2 l2)(hl:l.length<=60000)(hl2:l2.length<=2)(g most slots sp:Int)(hi:i<l.length) :
  Calls Tryz.prog 207 #[ixV g most slots v sp,.int .i64 i,v2] w (RxP g most slots sp (l.take i++l2++l.drop (i+1)) w):=by
 obtain⟨xs,rfl,hR,hE⟩:=hB;obtain⟨ys,rfl,hR2,hE2⟩:=hB2;obtain⟨va,vc,rfl,hvc,-,-,-⟩:=oSl hR;obtain⟨va2,vc2,rfl,-,-,-,-⟩:=oSl hR2;obtain⟨n,hn⟩:=eX xs.length
 obtain⟨m,hm⟩:=eX ys.length
 rw[ln9] at hi hl hl2;obtain⟨w1,hw1⟩:=eX ((w.alloc (.cells #[.int .i64 g,.int .i64 most,.int .i64 slots,.slice va n vc,.int .i64 sp] 137)).alloc (.cells #[.int .i64 0,.int .i64 0,.int .i64 0,.slice none 0 0,.int .i64 0] 137))
 obtain⟨z,hz⟩:=eX w.heap.size
 obtain⟨b0,b1,F1⟩:=ai0 hw1;rw[hz] at b0 b1;have hs1:w1.heap.size=z+2:=by rw[<- hw1,<- hz];simp
 rw[hn] at hi hl hvc;rw[hm] at hl2;have hto:∀ W,(Instr.slice 135 (.slice va n vc) none (some (.int .i64 i)) none).run Tryz.prog W = .ok (.slice va i vc) W:=fun W=>eA0 135 3 kF (fun W=>by kernel_rfl) va n vc i oM W
 obtain⟨a2,hfrom,hF2⟩:∃ a2:Option Addr,(∀ W,(Instr.slice 135 (.slice va n vc) (some (.int .i64 ((i:Int)+1))) none none).run Tryz.prog W = .ok (.slice a2 (n-(i+1)) (vc-(i+1))) W)/\∀ V,Fq w V->ts0 V (.slice a2 (n-(i+1)) (vc-(i+1))) (n-(i+1)) ((xs.flatMap rbC).drop ((i+1)*3)):=⟨_,fun W=>by have:=bW0 135 3 kF (fun W=>by kernel_rfl) va n vc (i+1) oM W;simpa only[Int.natCast_add,Int.natCast_one] using this,fun V F=>by have:=fI0 (oN hR F) (i+1) oM;rwa [hn] at this⟩
 have hkw:wrap64 ((i:Int)+1)=(i:Int)+1:=by simp only[wrap64];omega
 have HT:=hid (fun V (F:Fq w V)=>jj0 (oN hR F) i oM);have HS2:=hid (fun V (F:Fq w V)=>il0 (oN hR2 F));rw[hm] at HS2;have HFm:=hid hF2;have HC:=hid (fun V (F:Fq w1 V)=>aI (cells5 (F.heap b0 id)) (cells5 (F.heap b1 id)));have HB:=hi2 b0 b1;have HN:=hid hn;have HM:=hid hm;have HF:=hid F1;have HW:=hid hw1;have HZ:=hid hz;have HS:=hid hs1;have HE:=hi2 hE hE2;rw[hn,hm];obtain⟨i0,hi0,hz0,hz1,hz2⟩:=info_parts Tryz.wJ0;obtain⟨⟨x0,x1,x2,x3,x4,xz,xl⟩,⟨y0,y1,y2,y3,y4,yz,yl⟩⟩:=HC.out _ (Fr.refl _ _);clear hR hR2 hn hm F1 hw1 b0 b1 hs1 hz hE hE2 hF2;have hi63:i<=60000:=oM
 go_enter Tryz.func207,Tryz.ntmps207;go_upto_region 1 with fail
 rw[HW.out];try simp only[HZ.out]
 go_wp2_with (at_builtin;refine ag0 rfl (.tmp 8) (.tmp 12) 135 rfl w1.heap.size 220 i0 _ 3 40 Tryz.underlying135 hi0 hz0 hz1 hz2 rfl dC _ _ _ rfl (gl0 _ _ (nR _) _ _ _ (by simp[go_sem])) (.slice va i vc) i ((xs.flatMap rbC).take (i*3)) rfl (HT.out _ (HF.out.alloc _)) (by rw[lT,qB0 dS0,HN.out];omega) (fun u hu=>nv0 u (lR9 hu)) (by simp only[maxLen];omega) oM sP ?_)
 intro v3 W3 hO3 hg3 _;try simp only[le9,lp9] at hO3
 obtain⟨a3,c3,rfl,-,-,-,-⟩:=oSl hO3;have F3:Fq w1 W3:=((Fr.refl (fun b=>b=w1.heap.size) _).alloc _).trans (Fr.of_grownBy hg3) (fun b _ h=>h) |>.mono (fun b hb h=>oM)
 have H3:=hi2 hO3 F3;clear hO3 hg3 x0 x1 x2 x3 x4 xz xl y0 y1 y2 y3 y4 yz yl hto;have hb3:=F3.size;go_wp2_with (at_builtin;refine ag0 rfl (.tmp 14) (.tmp 15) 135 rfl w1.heap.size 220 i0 _ 3 40 Tryz.underlying135 hi0 hz0 hz1 hz2 rfl dC _ i _ rfl H3.out.1 (.slice va2 m vc2) m (ys.flatMap rbC) rfl (HS2.out _ (HF.out.trans H3.out.2 nI)) (by rw[qB0 dS0,HM.out]) nv0 (by simp only[maxLen];omega) oM hb3 ?_)
 intro v4 W4 hO4 hg4 _;obtain⟨a4,c4,rfl,-,-,-,-⟩:=oSl hO4;have F4:Fq w1 W4:=F3.trans (ci0 H3.out.1 hg4) (fun b hb h=>oM);have H4:=hi2 hO4 F4;clear hO4 hg4 F3 hb3;have hb4:=F4.size;obtain⟨⟨x0,x1,x2,x3,x4,xz,xl⟩,⟨y0,y1,y2,y3,y4,yz,yl⟩⟩:=HC.out _ F4;clear F4;go_wp2_with (at_builtin;refine ag0 rfl (.tmp 17) (.tmp 22) 135 rfl w1.heap.size 220 i0 _ 3 40 Tryz.underlying135 hi0 hz0 hz1 hz2 rfl dC _ (i+m) _ rfl H4.out.1 (.slice a2 (n-(i+1)) (vc-(i+1))) (n-(i+1)) _ rfl (HFm.out _ (HF.out.trans H4.out.2 nI)) (by rw[lv9,qB0 dS0,HN.out];omega) (fun u hu=>nv0 u (ml9 hu)) (by simp only[maxLen];omega) oM hb4 ?_)
 intro v5 W5 hO5 hg5 _;obtain⟨a5,c5,rfl,-,-,-,-⟩:=oSl hO5;have F5:Fq w1 W5:=H4.out.2.trans (ci0 H4.out.1 hg5) (fun b hb h=>oM);have H5:=hi2 hO5 F5;clear hO5 hg5 hb4 x0 x1 x2 x3 x4 xz xl y0 y1 y2 y3 y4 yz yl;obtain⟨⟨x0,x1,x2,x3,x4,xz,xl⟩,⟨y0,y1,y2,y3,y4,yz,yl⟩⟩:=HC.out _ F5;clear F5 hfrom hkw;obtain⟨r,hr⟩:=eX (i+m+(n-(i+1)))
 rw[hr] at H5;try simp only[hr]
 have HRr:=hid hr;clear hr hvc hl hl2 hi63;go_wp2_with fail
 refine bodyPost_ret (v:=ixV g most slots (.slice a5 r c5) sp) sR rfl ?_;have hl:(xs.take i++ys++xs.drop (i+1)).length=r:=by rw[lA,lA,lT,lv9,HN.out,HM.out,<- HRr.out,Nat.min_eq_left oM]
 have hh:=zl0 (xs:=xs.take i++ys++xs.drop (i+1)) HZ.out (HF.out.trans H5.out.2 nI) (H5.out.2.heap HB.out.1 id) (H5.out.2.heap HB.out.2 id) (ac0 (by
  have:=H5.out.1;rw[wO0 dS0,wP0 dS0,<- li9,<- li9,<- lm9] at this;exact this) (by have:=HS.out;omega)) hl (fun x hx=>by
  rcases lb9.1 hx with hx|hx
  ·rcases lb9.1 hx with hx|hx
   ·exact HE.out.1 x (lR9 hx)
   ·exact HE.out.2 x hx
  ·exact HE.out.1 x (ml9 hx)) (g:=g) (most:=most) (slots:=slots) (sp:=sp) rfl
 rw[lt9,lt9,List.map_take,List.map_drop] at hh;exact hh
def FoP (o:Option Bt)(w:World)(e:Ending)(w':World):Prop:=e = .returned (.tuple #[btV (o.getD ⟨0,0,0,0⟩),.bool o.isSome])/\Fq w w'
theorem lx0 (es:List Bt)(h:Nat):(fdI es h = -1/\fnd es h=none)\/∃ (k:Nat) (x:Bt),fdI es h=k/\es[k]?=some x/\fnd es h=some x:=by
 cases hf:es.findIdx? (fun x=>decide (x.hash=h)) with
 | none =>
  refine .inl ⟨by unfold fdI;rw[hf],?_⟩;rw[lE9] at hf;exact nd9.2 fun x hx=>by simpa using hf x hx
 | some k =>
  have:=hf;rw[lg9] at this;obtain⟨h1,h2,h3⟩:=this;refine .inr ⟨k,es[k],by unfold fdI;rw[hf],gE h1,?_⟩;unfold fnd;rw[List.find?_eq_some_iff_getElem];exact⟨h2,k,h1,rfl,fun j hj=>by have:=h3 j hj;simpa using this⟩
theorem getD_some {α:Type}{l:List α}{k:Nat}{x:α}(h:l[k]?=some x):k<l.length:=(gI.1 h).1
variable {b:Nat × Nat × List Bt}
theorem nK0 (h:(xs.map Rb.key)[i]?=some b):∃ x,xs[i]?=some x/\x.key=b:=by
 rw[gP] at h;cases hx:xs[i]? with
 | none=>rw[hx] at h;cases h
 | some x=>rw[hx] at h;exact⟨x,rfl,by simpa using h⟩
theorem vR0 {w1:World}{o:Option Bt}{e:Ending}(hz:w.heap.size=z)(hF:Fq w w1)(hF1:Fq w1 wr)(he:e = .returned (.tuple #[btV (o.getD ⟨0,0,0,0⟩),.bool o.isSome]))
  (hW:(((wr.setCell ⟨z+1,0,none⟩ v0).setCell ⟨z+1,1,none⟩ v1).setCell ⟨z+1,2,none⟩ v2).setCell ⟨z+1,3,none⟩ v3=W'):FoP o w e W':=by
 have F:Fr (fun b=>b=z+1) wr W':=by rw[<- hW];with_reducible (repeat (first|exact Fr.refl _ _|refine Fr.setCell ?_ (fun _=>by simp) _))
 exact⟨he,(hF.trans hF1 nI).trans F (fun b hb e=>oM)⟩
theorem sk0 (hB:OwnB w 0 v l)(hl:l.length<=60000)(g most slots sp:Int)(h:Nat)(hh:h<18446744073709551616)(hd:∀ b ∈ l,b.1<=20/\b.2.2.length<=60000)(hi:l.findIdx? (dL0 h)=some i)(hb:l[i]?=some b) :
  Calls Tryz.prog 144 #[ixV g most slots v sp,.int .u64 h] w (FoP (fnd b.2.2 h) w):=by
 have HAt:=hid (fun V (F:Fq w V)=>sx0 (hB.fr F) hl g most slots sp h hh (fun b hb=>(hd b hb).1) hi);have hbl:=(hd b (gM hb)).2;obtain⟨xs,rfl,hR,hE⟩:=hB;obtain⟨va,vc,rfl,-,-,-,-⟩:=oSl hR;obtain⟨x,hx,rfl⟩:=nK0 hb;replace hbl:x.es.length<=60000:=hbl
 have hin:=getD_some hx;have hEx:=hE x (gM hx);obtain⟨gb,rfl,hg,c0,c1,c2⟩:=ir0 hR hx;obtain⟨n,hn⟩:=eX xs.length
 rw[ln9] at hl;rw[hn] at hR hin hl HAt ⊢;obtain⟨w1,hw1⟩:=eX ((w.alloc (.cells #[.int .i64 g,.int .i64 most,.int .i64 slots,.slice (some ⟨gb,0,none⟩) n vc,.int .i64 sp] 137)).alloc (.cells #[.int .u64 0,.int .i64 0,.int .i64 0,.int .i64 0] 110))
 obtain⟨z,hz⟩:=eX w.heap.size
 obtain⟨b0,b1,F1⟩:=ai0 hw1;rw[hz] at b0 b1;have hs1:w1.heap.size=z+2:=by rw[<- hw1,<- hz];simp
 have HC:=hid (fun V (F:Fq w1 V)=>aI (cells5 (F.heap b0 id)) (aI (((F1.trans F nI).cell (p:=⟨gb,i*3,none⟩) hg id).trans c0) (aI (((F1.trans F nI).cell (p:=⟨gb,i*3+1,none⟩) hg id).trans c1) (aI (((F1.trans F nI).cell (p:=⟨gb,i*3+2,none⟩) hg id).trans c2) (nLL hg (F1.trans F nI).size)))));have HY:=hid (fun V (F:Fq w1 V)=>ah0 (F.heap b1 id));have HEx:=hid (fun V (F:Fq w1 V)=>oN hEx (F1.trans F nI));have HF:=hid F1;have HW:=hid hw1;have HZ:=hid hz;have HS:=hid hs1;have hii:(i:Int)<(n:Int):=oM
 have FD:=(Fr.refl (fun _=>False) w1).drew;clear hE hR hEx hx hn hw1 F1 b0 b1 hs1 hz hd c0 c1 c2 hg hb hi;go_enter Tryz.func144,Tryz.ntmps144;go_upto_region 1 with fail
 rw[HW.out];try simp only[HZ.out]
 refine wp_region_noPanic ?_;refine aq0 (fun V=>Fq w1 V) (.rd 0 (.rd 1 (.rd 2 (.rd 3 (.two 4 7 (.rd 5 (.rd 6 (.op 7 (.op 8 .done)))) (.op 4 (.rd 5 (.rd 6 (.op 8 .done)))))))) ) kF kF kF (fun _ _ _ _ _ h=>h) FD ?_;iterate 4
  try simp only[Act.put,sI,sZ,sS]
  refine ay0 _ ?_ gF rF ?_ ?_;rotate_left
  ·intro V hV;obtain⟨⟨x0,x1,x2,x3,x4,xz,xl⟩,e0,e1,e2,eg⟩:=HC.out V hV;go_simp;try with_reducible rfl
 refine bn0 ?_ ?_;focus
  try simp only[Act.put,sI,sZ,sS]
  refine az0 _ gF rF (fun K hK=>?_);go_simp
  (with_reducible refine (HAt.out _ (HF.out.trans FD nI)).mono ?_)
  rintro _ V1 ⟨rfl,G1⟩;have F1:=FD.trans G1 nI;refine hK _ _ F1 ?_;clear hK K;iterate 2
   try simp only[Act.put,sI,sZ,sS]
   refine ay0 _ ?_ gF rF ?_ ?_;rotate_left
   ·intro V hV;obtain⟨⟨x0,x1,x2,x3,x4,xz,xl⟩,e0,e1,e2,eg⟩:=HC.out V hV;go_simp;try with_reducible rfl
  try simp only[Act.put,sI,sZ,sS]
  refine az0 _ gF rF (fun K hK=>?_);go_simp;obtain⟨V2,hV2⟩:=eX (V1.alloc (.cells #[.int .i64 0,.int .i64 0,.slice none 0 0] 220))
  obtain⟨s,hs⟩:=eX V1.heap.size
  have b2:V2.heap[s]?=some (.cells #[.int .i64 0,.int .i64 0,.slice none 0 0] 220):=by rw[<- hV2,<- hs];exact han _ _
  have F2:Fq w1 V2:=by rw[<- hV2];exact F1.alloc _
  have hsl:w1.heap.size<=s:=by rw[<- hs];exact F1.size
  rw[hV2];try simp only[hs]
  refine hK _ _ F2 ?_;clear hK K hV2 hs G1;try simp only[Act.put,sI,sZ,sS]
  refine az0 _ gF rF (fun K hK=>?_);obtain⟨u0,u1,u2,uz,ul⟩:=cells3 b2;go_simp;obtain⟨V3,hV3⟩:=eX (((V2.setCell ⟨s,0,none⟩ (.int .i64 x.d)).setCell ⟨s,1,none⟩ (.int .i64 x.p)).setCell ⟨s,2,none⟩ x.v)
  rw[hV3];have b3:V3.heap[s]?=some (.cells #[.int .i64 x.d,.int .i64 x.p,x.v] 220):=by rw[<- hV3,hsc _ _ _ _ (hsc _ _ _ _ (hsc _ _ _ _ b2))];rfl
  have F23:Fr (fun b=>b=s) V2 V3:=by rw[<- hV3];with_reducible (repeat (first|exact Fr.refl _ _|refine Fr.setCell ?_ (fun _=>by simp) _))
  have F3:Fq w1 V3:=F2.trans F23 (fun b hb e=>oM);refine hK _ _ F3 ?_;clear hK K hV3 u0 u1 u2 uz ul b2 F23 F2 F1;refine ar0 ?_;refine NoPanic.normal ?_;try simp only[Act.put,sI,sZ,sS]
 rotate_left;focus
  try simp only[Act.put,sI,sZ,sS]
  refine az0 _ gF rF (fun K hK=>?_);go_simp;obtain⟨V2,hV2⟩:=eX ((w1.alloc (.cells #[.int .i64 0,.int .i64 0,.slice none 0 0] 220)).drew)
  obtain⟨s,hs⟩:=eX w1.heap.size
  have b2:V2.heap[s]?=some (.cells #[.int .i64 0,.int .i64 0,.slice none 0 0] 220):=by rw[<- hV2,<- hs];exact han w1 (.cells #[.int .i64 0,.int .i64 0,.slice none 0 0] 220)
  have F2:Fq w1 V2:=by rw[<- hV2];exact ((Fr.refl _ _).alloc _).drew
  have hsl:w1.heap.size<=s:=oM
  rw[hV2];try simp only[hs]
  refine hK _ _ F2 ?_;clear hK K hV2 hs;try simp only[Act.put,sI,sZ,sS]
  refine az0 _ gF rF (fun K hK=>?_);go_simp
  (with_reducible refine (HAt.out _ (HF.out.trans F2 nI)).mono ?_)
  rintro _ V1 ⟨rfl,G1⟩;have F1:=F2.trans G1 nI;replace b2:=G1.heap b2 id
  refine hK _ _ F1 ?_;clear hK K;iterate 2
   try simp only[Act.put,sI,sZ,sS]
   refine ay0 _ ?_ gF rF ?_ ?_;rotate_left
   ·intro V hV;obtain⟨⟨x0,x1,x2,x3,x4,xz,xl⟩,e0,e1,e2,eg⟩:=HC.out V hV;go_simp;try with_reducible rfl
  try simp only[Act.put,sI,sZ,sS]
  refine az0 _ gF rF (fun K hK=>?_);obtain⟨u0,u1,u2,uz,ul⟩:=cells3 b2;go_simp;obtain⟨V3,hV3⟩:=eX (((V1.setCell ⟨s,0,none⟩ (.int .i64 x.d)).setCell ⟨s,1,none⟩ (.int .i64 x.p)).setCell ⟨s,2,none⟩ x.v)
  rw[hV3];have b3:V3.heap[s]?=some (.cells #[.int .i64 x.d,.int .i64 x.p,x.v] 220):=by rw[<- hV3,hsc _ _ _ _ (hsc _ _ _ _ (hsc _ _ _ _ b2))];rfl
  have F23:Fr (fun b=>b=s) V1 V3:=by rw[<- hV3];with_reducible (repeat (first|exact Fr.refl _ _|refine Fr.setCell ?_ (fun _=>by simp) _))
  have F3:Fq w1 V3:=F1.trans F23 (fun b hb e=>oM);refine hK _ _ F3 ?_;clear hK K hV3 u0 u1 u2 uz ul b2 F23 F2 F1 G1;refine ar0 ?_;refine NoPanic.normal ?_;try simp only[Act.put,sI,sZ,sS]
 all_goals
  have H3:=hi2 F3 b3;obtain⟨u0,u1,u2,uz,ul⟩:=cells3 b3;have HRF:=hid (gi0 (d:=x.d) (p:=x.p) (HEx.out _ F3) (nT hbl dC) h);clear F3 b3 FD hsl;go_wp2_with fail
  (with_reducible refine HRF.out.mono ?_)
  rintro _ V4 ⟨rfl,F4⟩;have H4:=hi2 (H3.out.1.trans F4 nI) (F4.heap H3.out.2 id);clear F4 u0 u1 u2 uz ul;obtain⟨u0,u1,u2,uz,ul⟩:=cells3 H4.out.2;obtain⟨y0,y1,y2,y3,yz,yl⟩:=HY.out _ H4.out.1;rcases lx0 x.es h with⟨e1,e2⟩|⟨k,y,e1,e2,e3⟩
  ·have HV:=hid (show fnd x.key.2.2 h=none from e2);rw[e1];have hlt:decide ((-1:Int)<0)=true:=by decide
   clear e1 e2;go_wp2_with fail
   refine bodyPost_ret (v:=.tuple #[btV ⟨0,0,0,0⟩,.bool false]) sR rfl ?_;exact vR0 HZ.out HF.out H4.out.1 (by rw[HV.out];rfl) rfl
  ·have HV:=hid (show fnd x.key.2.2 h=some y from e3);rw[e1];have hlt:decide ((k:Int)<0)=false:=by simp
   have hkl:k<x.es.length:=getD_some e2;have hki:(k:Int)<(x.es.length:Int):=oM
   obtain⟨ge,he,hge,q0,q1,q2,q3⟩:=cw0 (HEx.out _ H4.out.1) e2;replace u2:V4.cell? ⟨s,2,none⟩=some (.slice (some ⟨ge,0,none⟩) x.es.length x.c):=by rw[u2,<- he]
   clear e1 e2 e3 he;go_wp2_with fail
   refine bodyPost_ret (v:=.tuple #[btV y,.bool true]) sR rfl ?_;exact vR0 HZ.out HF.out H4.out.1 (by rw[HV.out];rfl) rfl
def RwP (g most slots sp:Int)(ok:Bool)(l:Lb)(w:World)(e:Ending)(w':World):Prop:=∃ v,e = .returned (.tuple #[ixV g most slots v sp,.bool ok])/\OwnB w' 0 v l/\Fq w w'
theorem vS0 (es:List Bt)(h:Nat):decide (fdI es h≥0)=(fnd es h).isSome:=by
 rcases lx0 es h with⟨e1,e2⟩|⟨k,y,e1,e2,e3⟩
 ·rw[e1,e2];rfl
 ·rw[e1,e3];simp
theorem OwnB.slice {b:Nat}(h:OwnB w b v l):∃ a c,v = .slice a l.length c:=by
 obtain⟨xs,rfl,h2,-⟩:=h;obtain⟨a,c,rfl,-⟩:=oSl h2;exact⟨a,c,by rw[ln9]⟩
variable {es:List Bt}
theorem ow0 (h:V.heap[s]?=some (.cells #[.int .i64 d,.int .i64 p,.slice a es.length c] 220))(hE:cF0 V 0 (.slice a es.length c) es):OwnB V 0 (.slice (some ⟨s,0,none⟩) 1 1) [(d,p,es)]:=
 ⟨[⟨d,p,a,c,es⟩],rfl,⟨rfl,.inr ⟨s,1,_,rfl,la9 _,h,nR _,dC,rfl,rfl⟩⟩,fun x hx=>by rw[lQ9] at hx;subst hx;exact hE⟩
theorem uf0 {c' d' p':Nat}{a':Option Addr}{es':List Bt}(h:V.heap[s]?=some (.cells #[.int .i64 d,.int .i64 p,.slice a es.length c,.int .i64 d',.int .i64 p',.slice a' es'.length c'] 220))(hE:cF0 V 0 (.slice a es.length c) es)(hE':cF0 V 0 (.slice a' es'.length c') es'):OwnB V 0 (.slice (some ⟨s,0,none⟩) 2 2) [(d,p,es),(d',p',es')]:=
 ⟨[⟨d,p,a,c,es⟩,⟨d',p',a',c',es'⟩],rfl,⟨rfl,.inr ⟨s,2,_,rfl,la9 _,h,nR _,dC,rfl,rfl⟩⟩,fun x hx=>by
  rcases lA9.1 hx with e|hx
  ·subst e;exact hE
  ·rw[lQ9] at hx;subst hx;exact hE'⟩
theorem sd0 {ok:Bool}{v4:Value}(hz:w.heap.size<z)(hF:Fq w wr)(h0:wr.heap[z]?=some (.cells c0 137))(hO:OwnB wr 0 v l)
  (hW:((((wr.setCell ⟨z,0,none⟩ v0).setCell ⟨z,1,none⟩ v1).setCell ⟨z,2,none⟩ v2).setCell ⟨z,3,none⟩ v3).setCell ⟨z,4,none⟩ v4=W') :
  RwP g most slots sp ok l w (.returned (.tuple #[ixV g most slots v sp,.bool ok])) W':=by
 have F:Fr (fun b=>b=z) wr W':=by rw[<- hW];with_reducible (repeat (first|exact Fr.refl _ _|refine Fr.setCell ?_ (fun _=>by simp) _))
 obtain⟨xs,h1,h2,h3⟩:=hO;refine⟨v,rfl,⟨xs,h1,oRf h2 F (fun g c' hg e=>by rw[e,h0] at hg;cases hg),fun x hx=>oRf (h3 x hx) F (fun g c' hg e=>by rw[e,h0] at hg;cases hg)⟩,hF.trans F (fun b hb e=>oM)⟩
theorem sq0 (hB:OwnB w 0 v l)(hl:l.length<=60000)(g most slots sp:Int)(h:Nat)(hh:h<18446744073709551616)(hd:∀ b ∈ l,b.1<=20/\b.2.2.length<=60000)(hi:l.findIdx? (dL0 h)=some i)(hb:l[i]?=some b) :
  Calls Tryz.prog 145 #[ixV g most slots v sp,.int .u64 h] w (RwP g most slots sp (fnd b.2.2 h).isSome (l.take i++[(b.1,b.2.1,b.2.2.filter (dv0 h))]++l.drop (i+1)) w):=by
 have HAt:=hid (fun V (F:Fq w V)=>sx0 (hB.fr F) hl g most slots sp h hh (fun b hb=>(hd b hb).1) hi);have hbl:=(hd b (gM hb)).2;have HWi:=hid (fun V (F:Fq w V) (v2:Value) (l2:Lb) (h2:OwnB V 0 v2 l2) (hl2:l2.length<=2)=>oh0 (hB.fr F) h2 hl hl2 g most slots sp (getD_some hb));obtain⟨xs,rfl,hR,hE⟩:=hB;obtain⟨va,vc,rfl,-,-,-,-⟩:=oSl hR;obtain⟨x,hx,rfl⟩:=nK0 hb;replace hbl:x.es.length<=60000:=hbl
 have hin:=getD_some hx;have hEx:=hE x (gM hx);obtain⟨gb,rfl,hg,c0,c1,c2⟩:=ir0 hR hx;obtain⟨n,hn⟩:=eX xs.length
 rw[ln9] at hl;rw[hn] at hR hin hl HAt HWi ⊢;obtain⟨w1,hw1⟩:=eX ((w.alloc (.cells #[.int .i64 g,.int .i64 most,.int .i64 slots,.slice (some ⟨gb,0,none⟩) n vc,.int .i64 sp] 137)).alloc (.cells #[.int .i64 0,.int .i64 0,.int .i64 0,.slice none 0 0,.int .i64 0] 137))
 obtain⟨z,hz⟩:=eX w.heap.size
 obtain⟨b0,b1,F1⟩:=ai0 hw1;rw[hz] at b0 b1;have HC:=hid (fun V (F:Fq w1 V)=>aI (cells5 (F.heap b0 id)) (aI (((F1.trans F nI).cell (p:=⟨gb,i*3,none⟩) hg id).trans c0) (aI (((F1.trans F nI).cell (p:=⟨gb,i*3+1,none⟩) hg id).trans c1) (aI (((F1.trans F nI).cell (p:=⟨gb,i*3+2,none⟩) hg id).trans c2) (nLL hg (F1.trans F nI).size)))));have HY:=hid (fun V (F:Fq w1 V)=>F.heap b1 id);have HC0:=hid (fun V (F:Fr (fun b=>b=z+1) w1 V)=>aI (cells5 (F.heap b0 (fun h=>oM))) (aI ((F.cell (p:=⟨gb,i*3,none⟩) (nLL hg F1.size) (fun h=>by have:gb=z+1:=h;omega)).trans ((F1.cell (p:=⟨gb,i*3,none⟩) hg id).trans c0)) (aI ((F.cell (p:=⟨gb,i*3+1,none⟩) (nLL hg F1.size) (fun h=>by have:gb=z+1:=h;omega)).trans ((F1.cell (p:=⟨gb,i*3+1,none⟩) hg id).trans c1)) (aI ((F.cell (p:=⟨gb,i*3+2,none⟩) (nLL hg F1.size) (fun h=>by have:gb=z+1:=h;omega)).trans ((F1.cell (p:=⟨gb,i*3+2,none⟩) hg id).trans c2)) (nLL (nLL hg F1.size) F.size)))));have HEx:=hid (fun V (F:Fq w1 V)=>oN hEx (F1.trans F nI));have HF:=hid F1;have HW:=hid hw1;have HZ:=hid hz;have hii:(i:Int)<(n:Int):=oM
 have HK:=hid (show fnd x.key.2.2 h=fnd x.es h from rfl);obtain⟨⟨x0,x1,x2,x3,x4,xz,xl⟩,e0,e1,e2,eg⟩:=HC.out _ (Fr.refl _ _);clear hE hR hEx hx hn hw1 F1 b0 b1 hz hd c0 c1 c2 hg hb hi;go_enter Tryz.func145,Tryz.ntmps145;go_upto_region 1 with fail
 rw[HW.out];try simp only[HZ.out]
 go_wp2_with fail
 (with_reducible refine (HAt.out _ HF.out).mono ?_)
 rintro _ V1 ⟨rfl,F1⟩;have HRF:=hid (gi0 (d:=x.d) (p:=x.p) (HEx.out _ F1) (nT hbl dC) h);have H1:=hid F1;clear x0 x1 x2 x3 x4 xz xl e0 e1 e2 eg;obtain⟨⟨x0,x1,x2,x3,x4,xz,xl⟩,e0,e1,e2,eg⟩:=HC.out _ F1;clear F1;go_wp2_with fail
 (with_reducible refine HRF.out.mono ?_)
 rintro _ V2 ⟨rfl,F2⟩;have H2:=hid (H1.out.trans F2 nI);obtain⟨ok,hok⟩:=eX (decide (fdI x.es h≥0))
 have HOk:=hid hok;clear F2 x0 x1 x2 x3 x4 xz xl e0 e1 e2 eg;obtain⟨⟨x0,x1,x2,x3,x4,xz,xl⟩,e0,e1,e2,eg⟩:=HC.out _ H2.out;go_upto_region 3 with fail
 clear x0 x1 x2 x3 x4 xz xl e0 e1 e2 eg;refine wp_region_noPanic ?_;refine aq0 (fun V=>Fr (fun b=>b=z+1) w1 V) (.rd 0 (.rd 1 (.rd 2 (.rd 3 (.rd 4 (.rd 5 (.rd 6 (.rd 7 (.rd 11 (.op 8 (.op 9 (.op 10 (.op 12 (.rd 13 .done)))))))))))))) kF kF kF (fun _ _ _ _ _ h=>h) (H2.out.drew.mono nE) ?_;iterate 8
  try simp only[Act.put,sI,sZ,sS]
  refine ay0 _ ?_ gF rF ?_ ?_;rotate_left
  ·intro V hV;obtain⟨⟨x0,x1,x2,x3,x4,xz,xl⟩,e0,e1,e2,eg⟩:=HC0.out V hV;go_simp;try with_reducible rfl
 try simp only[Act.put,sI,sZ,sS]
 refine ay0 _ ?_ gF rF ?_ ?_;rotate_left
 ·intro V hV;go_simp;try with_reducible rfl
 try simp only[Act.put,sI,sZ,sS]
 refine az0 _ gF rF (fun K hK=>?_);go_simp;have FD:=H2.out.drew
 (with_reducible refine (sr0 (HEx.out _ FD) (nT hbl dC) x.d x.p h).mono ?_)
 rintro _ V3 ⟨a3,c3,rfl,hO3,G3⟩;have F3:=FD.trans G3 nI;refine hK _ _ (F3.mono nE) ?_;clear hK K G3;try simp only[Act.put,sI,sZ,sS]
 refine az0 _ gF rF (fun K hK=>?_);go_simp;obtain⟨V4,hV4⟩:=eX (V3.alloc (.cells #[.int .i64 x.d,.int .i64 x.p,.slice a3 (x.es.filter (dv0 h)).length c3] 220))
 have b4:V4.heap[V3.heap.size]?=some (.cells #[.int .i64 x.d,.int .i64 x.p,.slice a3 (x.es.filter (dv0 h)).length c3] 220):=by rw[<- hV4];exact han _ _
 have F34:Fq V3 V4:=by rw[<- hV4];exact (Fr.refl _ _).alloc _
 have F4:=F3.trans F34 nI;rw[hV4];refine hK _ _ (F4.mono nE) ?_;clear hK K;have hO4:=ow0 b4 (ac0 (oN hO3 F34) (la9 _));try simp only[Act.put,sI,sZ,sS]
 refine az0 _ gF rF (fun K hK=>?_);go_simp
 (with_reducible refine (HWi.out _ (HF.out.trans F4 nI) _ _ hO4 sP).mono ?_)
 rintro _ V5 ⟨v5,rfl,hO5,G5⟩;obtain⟨n5,hn5⟩:=eX ((List.take i (List.map Rb.key xs)++[(x.d,x.p,List.filter (dv0 h) x.es)]++List.drop (i+1) (List.map Rb.key xs)).length)
 obtain⟨a5,c5,rfl⟩:=hO5.slice;rw[hn5] at hO5 ⊢;clear hn5;have F5:=F4.trans G5 nI;refine hK _ _ (F5.mono nE) ?_;clear hK K;try simp only[Act.put,sI,sZ,sS]
 refine az0 _ gF rF (fun K hK=>?_);obtain⟨y0,y1,y2,y3,y4,yz,yl⟩:=cells5 (HY.out _ F5);go_simp;have HE:=hid (show ∀ W',((((V5.setCell ⟨z+1,0,none⟩ (.int .i64 g)).setCell ⟨z+1,1,none⟩ (.int .i64 most)).setCell ⟨z+1,2,none⟩ (.int .i64 slots)).setCell ⟨z+1,3,none⟩ (.slice a5 n5 c5)).setCell ⟨z+1,4,none⟩ (.int .i64 sp)=W'->RwP g most slots sp ok _ w _ W' from fun W' hW=>sd0 (show w.heap.size<z+1 by have:=HZ.out;omega) (HF.out.trans F5 nI) (HY.out _ F5) hO5 hW);refine hK _ _ ((F5.mono (S':=fun b=>b=z+1) nE).trans (S:=fun b=>b=z+1) (by with_reducible (repeat (first|exact Fr.refl _ _|refine Fr.setCell ?_ (fun _=>by simp) _))) nI) ?_;clear hK K;try simp only[Act.put,sI,sZ,sS]
 refine ay0 _ ?_ gF rF ?_ ?_;rotate_left
 ·intro V hV;go_simp;try with_reducible rfl
 refine ar0 ?_;refine NoPanic.normal ?_;try simp only[Act.put,sI,sZ,sS]
 clear F3 F4 F34 F5 FD G5 hO3 hO4 hO5 b4 hV4;go_wp2_with fail
 refine bodyPost_ret (v:=.tuple #[ixV g most slots (.slice a5 n5 c5) sp,.bool ok]) sR rfl ?_;rw[show (fnd x.key.2.2 h).isSome=ok by rw[<- HOk.out,vS0];rfl];exact HE.out _ rfl
structure ve0 where
 g:Nat
 l:Lb
 sp:Int
 lost:Bool
def rep (l:Lb)(i:Nat)(m:Lb):Lb:=l.take i++m++l.drop (i+1)
def gE0 (es:List Bt):Nat:=match dl0 es es.length with
 | some k=>match es[k]? with
  | some x=>x.hash
  | none=>0
 | none=>0
def halves (b:Nat × Nat × List Bt)(es:List Bt):Lb:=[(b.1+1,2*b.2.1,es.filter (bX0 b.1 (2*b.2.1))),(b.1+1,2*b.2.1+1,es.filter (bX0 b.1 (2*b.2.1+1)))]
def km0:Nat->Nat->Lb->Int->Bt->Int->ve0
 | 0,g,l,sp,_,_=>⟨g,l,sp,false⟩
 | n+1,g,l,sp,y,o =>
  match l.findIdx? (dL0 y.hash) with
  | none=>⟨g,l,sp,false⟩
  | some i =>
   match l[i]? with
   | none=>⟨g,l,sp,false⟩
   | some b =>
    let es:=aG0 b.2.2 y.hash o
    if bJ0 es y.hash 3=true then ⟨g,rep l i [(b.1,b.2.1,bK0 es y)],sp,false⟩
    else if b.1<3 then km0 n (if b.1=g then g+1 else g) (rep l i (halves b es)) (sp+1) y o
    else ⟨g,rep l i [(b.1,b.2.1,bK0 (es.filter (dv0 (gE0 es))) y)],sp,true⟩
theorem ny0 {n g:Nat}{y:Bt}{o:Int}(hi:l.findIdx? (dL0 y.hash)=some i)(hb:l[i]?=some b):km0 (n+1) g l sp y o =
  if bJ0 (aG0 b.2.2 y.hash o) y.hash 3=true then ⟨g,rep l i [(b.1,b.2.1,bK0 (aG0 b.2.2 y.hash o) y)],sp,false⟩
  else if b.1<3 then km0 n (if b.1=g then g+1 else g) (rep l i (halves b (aG0 b.2.2 y.hash o))) (sp+1) y o
  else ⟨g,rep l i [(b.1,b.2.1,bK0 ((aG0 b.2.2 y.hash o).filter (dv0 (gE0 (aG0 b.2.2 y.hash o)))) y)],sp,true⟩:=by
 simp only[km0,hi,hb]
theorem bO0 (h:aa0 es)(f:Bt->Bool):aa0 (es.filter f):=List.Pairwise.filter f h
theorem mV0 {k:Nat}(h:hasB es k=false)(f:Bt->Bool):hasB (es.filter f) k=false:=by
 unfold hasB at h ⊢;rw[mt9] at h ⊢;exact fun x hx=>h x (mb9.1 hx).1
def OkB (b:Nat × Nat × List Bt):Prop:=b.1<=3/\b.2.1<2^b.1/\b.2.2.length<=60000/\aa0 b.2.2/\∀ x ∈ b.2.2,x.hash<18446744073709551616
theorem rt0 (h:OkB b)(h3:b.1<3)(hl:es.length<=60000)(hs:aa0 es)(hh:∀ x ∈ es,x.hash<18446744073709551616):∀ c ∈ halves b es,OkB c:=by
 have hp:2*b.2.1+1<2^(b.1+1):=by have:=h.2.1;rw[lK9];omega
 intro c hc;rcases lA9.1 hc with e|hc
 ·subst e;exact⟨h3,by show 2*b.2.1<2^(b.1+1);omega,nT (lD9 _ _) hl,bO0 hs _,fun x hx=>hh x (mb9.1 hx).1⟩
 ·rw[lQ9] at hc;subst hc;exact⟨h3,hp,nT (lD9 _ _) hl,bO0 hs _,fun x hx=>hh x (mb9.1 hx).1⟩
theorem xj0 {c:Nat × Nat × List Bt}(h:c ∈ rep l i m):c ∈ l\/c ∈ m:=by
 unfold rep at h;rcases lb9.1 h with h|h
 ·rcases lb9.1 h with h|h
  ·exact .inl (lR9 h)
  ·exact .inr h
 ·exact .inl (ml9 h)
theorem xk0 (h:i<l.length):(rep l i m).length+1=l.length+m.length:=by
 unfold rep;rw[lA,lA,lT,lv9];omega
theorem sm0 (hi:l.findIdx? (dL0 h)=some i)(hj:m.findIdx? (dL0 h)=some j):(rep l i m).findIdx? (dL0 h)=some (i+j):=by
 have h1:=hi;rw[lg9] at h1;obtain⟨a1,a2,a3⟩:=h1;have hn:(l.take i).findIdx? (dL0 h)=none:=by
  rw[lE9];intro x hx;obtain⟨k,hk,e⟩:=mW9 hx;rw[lT] at hk;have:=a3 k oM;rw[<- e,List.getElem_take];simpa using this
 unfold rep;rw[lm9,List.findIdx?_append,hn,List.findIdx?_append,hj];simp only[Option.or,Option.map];simp[lT];omega
theorem ju0 (es:List Bt)(hb:dL0 h b=true)(h3:b.1<3)(hh:h<18446744073709551616):∃ j c,(halves b es).findIdx? (dL0 h)=some j/\(halves b es)[j]?=some c/\c.1=b.1+1:=by
 have h1:aY0 h b.1=b.2.1:=by simpa[dL0] using hb
 have h2:=eH0 (h:=h) (d:=b.1) oM hh;rcases Nat.mod_two_eq_zero_or_one (aY0 h (b.1+1)) with e|e
 ·refine⟨0,_,?_,rfl,rfl⟩;have:dL0 h (b.1+1,2*b.2.1,es.filter (bX0 b.1 (2*b.2.1)))=true:=by unfold dL0;exact decide_eq_true (by show aY0 h (b.1+1)=2*b.2.1;omega)
  unfold halves;rw[lS9,this];rfl
 ·refine⟨1,_,?_,rfl,rfl⟩;have q1:dL0 h (b.1+1,2*b.2.1,es.filter (bX0 b.1 (2*b.2.1)))=false:=by unfold dL0;exact decide_eq_false (by show ¬ aY0 h (b.1+1)=2*b.2.1;omega)
  have q2:dL0 h (b.1+1,2*b.2.1+1,es.filter (bX0 b.1 (2*b.2.1+1)))=true:=by unfold dL0;exact decide_eq_true (by show aY0 h (b.1+1)=2*b.2.1+1;omega)
  unfold halves;rw[lS9,q1,lS9,q2];rfl
theorem vE0 {c:Nat × Nat × List Bt}(hi:i<=l.length)(hj:m[j]?=some c):(rep l i m)[i+j]?=some c:=by
 unfold rep;have:=getD_some hj;rw[lm9,lk9 (by rw[lT];omega),lT,Nat.min_eq_left hi,mq9,lh9 this,hj]
