/- A pack of texts. Conditions: those that each names. -/
import Derived.Test.YtgdhaaokolfdoaaGreatDoorNBO
set_option maxHeartbeats 16000000
set_option maxRecDepth 100000
set_option linter.all false
namespace Go.Proofs.YtgdhaaokolfdoaaGreatDoor
open Go.RowKit Go.Sg Go.Sg.Bits Go.Sg.Clk CP SF
theorem rc0 (t:Tr)(g:Nat)(h:t.high<=g):t.lo g 0=0:=by
 have:=(Tr.lo_le t g 0 h (lW9 dC)).1;omega
theorem mO0:∀ (t:Tr) (g i q:Nat),t.high<=g->i<2^g->t.lo g i=i->2^t.wd g i=q->i+q=2^g\/(i+q<2^g/\t.lo g (i+q)=i+q)
 | .leaf _ _,g,i,q,_,_,h,hq=>by
  simp only[Tr.lo] at h;simp only[Tr.wd] at hq;exact .inl oM
 | .node l r,g,i,q,hh,hi,h,hq=>by
  simp only[Tr.high] at hh;have h2:=Tr.ce0 (g:=g) oM;simp only[Tr.lo] at h ⊢;simp only[Tr.wd] at hq;by_cases hlt:i<2^(g-1)
  ·rw[if_pos hlt] at h hq;rcases mO0 l (g-1) i q oM hlt h hq with e|⟨e1,e2⟩
   ·refine .inr ⟨oM,?_⟩;rw[e,if_neg oM,nq9,rc0 r _ oM];rfl
   ·exact .inr ⟨oM,by rw[if_pos e1];exact e2⟩
  ·rw[if_neg hlt] at h hq;rcases mO0 r (g-1) (i-2^(g-1)) q oM oM oM hq with e|⟨e1,e2⟩
   ·exact .inl oM
   ·refine .inr ⟨oM,?_⟩;rw[if_neg oM,show i+q-2^(g-1)=i-2^(g-1)+q by omega,e2];omega
variable {t:Tr}{g:Nat}{w:World}
theorem rH0 {i d p:Nat}{r:Rf}{es:List Bt}(hh:t.high<=g)(hi:i<2^g)(h:t.lo g i=i)(hz:t.at_ g i 0 0=(d,p,r,es)) :
  d<=g/\p<2^d/\p*2^(g-d)=i/\t.wd g i=g-d/\∀ j,i<=j->j<i+2^(g-d)->(t.slots g)[j]?=some r:=by
 have h1:=Tr.cC0 t g i 0 0;have h2:=Tr.gZ0 t g i 0 0 hh;have h3:=Tr.nE0 t g i 0 0 hh;have h4:=Tr.kQ0 t g i 0 0 hh hi;rw[hz] at h1 h2 h3 h4;simp only at h1 h2 h3 h4;have hw:t.wd g i=g-d:=oM
 rw[h,mr9,lp9,hw] at h3;refine⟨oM,?_,h3.symm,hw,fun j hj1 hj2=>?_⟩
 ·rw[h4,mr9,lp9,lp9];refine Nat.div_lt_of_lt_mul ?_;rw[<- mZ9,show g-d+d=g by omega];exact hi
 ·obtain⟨l1,l2,l3⟩:=Tr.lo_le t g i hh hi;rw[h,hw] at l3;have:=je0 hh hi r (fun _ _=>.leaf r es) (fun _ _=>⟨es,rfl⟩);rw[show t.put g i (fun _ _=>.leaf r es)=t by
   have e:=dt0 t g i;have:∀ (t:Tr) (g k d p:Nat) (f f':Rf->List Bt->Tr),f (t.at_ g k d p).2.2.1 (t.at_ g k d p).2.2.2=f' (t.at_ g k d p).2.2.1 (t.at_ g k d p).2.2.2->t.put g k f=t.put g k f':=fun t=>by
    induction t with
    | leaf r es=>intro g k d p f f' h;exact h
    | node l r ihl ihr =>
     intro g k d p f f' h;simp only[Tr.at_,Tr.put] at h ⊢;split at h
     ·rename_i hlt;rw[if_pos hlt,if_pos hlt,ihl _ _ _ _ _ _ h]
     ·rename_i hlt;rw[if_neg hlt,if_neg hlt,ihr _ _ _ _ _ _ h]
   rw[this t g i 0 0 _ Tr.leaf (by rw[hz]),e]] at this
  rw[<- this,h,hw,bf0,if_pos (is0.2 ⟨hj1,hj2⟩),gE (by rw[Tr.ba0 t g hh];omega)];rfl
variable {x:aL0}
theorem qx0 {bx bd s most sl:Nat}{sp:Int}(hI:cn0 w bx s bd sl most sp)(hD:aj0 w bd s x)(hg:x.depth=g)(hh:t.high<=g)(hg3:g<=3){v:Value}{b0:Nat}{zs:List Slt}(hR:w.ownsRow b0 131 5 v zs.length (zs.flatMap bE0))(hm:zs.map (·.s)=bP0 t g 0 0) :
  Calls Tryz.prog 149 #[cG0 bx,v] w (ec0 (.bool true) w):=by
 obtain⟨va,vc,rfl,-,-,-,-⟩:=oSl hR;obtain⟨n,hn⟩:=eX zs.length
 have hn2:n=2^g:=by rw[<- hn,<- cI0 t g 0 0 hh,<- hm,ln9]
 have hn8:n<=8:=by rw[hn2];exact nT (lc9 dC hg3) dC
 have hat:∀ i,i<n->∃ z,zs[i]?=some z/\z.s=t.at_ g i 0 0:=fun i hi=>by
  obtain⟨z,hz⟩:∃ z,zs[i]?=some z:=⟨_,gE oM⟩
  have h1:=fy0 t g i 0 0 hh oM;rw[<- hm,gP,hz] at h1;exact⟨z,hz,Option.some.inj h1⟩
 have hrf:∀ (i:Nat) (z:Slt),zs[i]?=some z->(t.slots g)[i]?=some z.s.2.2.1:=fun i z hz=>by
  rw[<- bD0 t g 0 0,<- hm,mP9,gP,hz];rfl
 rw[hn] at hR ⊢;have hC:=fun (i:Nat) (z:Slt) (hz:zs[i]?=some z) (V:World) (F:Fq w V)=>show ∃ g,va=some ⟨g,0,none⟩/\V.cell? ⟨g,i*5,none⟩=some (.int .i64 z.s.2.2.1.1)/\V.cell? ⟨g,i*5+1,none⟩=some (.int .i64 z.s.2.2.1.2)/\V.cell? ⟨g,i*5+2,none⟩=some (.int .i64 z.s.1)/\V.cell? ⟨g,i*5+3,none⟩=some (.int .i64 z.s.2.1)/\V.cell? ⟨g,i*5+4,none⟩=some (.slice z.va z.s.2.2.2.length z.vc)/\g<V.heap.size by
  have hR':=oN hR F;obtain⟨g,e,hg,c0⟩:=al0 hR' (di0 (f:=bE0) (s:=5) (fun _=>rfl) zs i 0 z hz dC);obtain⟨g1,e1,-,c1⟩:=al0 hR' (di0 (f:=bE0) (s:=5) (fun _=>rfl) zs i 1 z hz dC);obtain⟨g2,e2,-,c2⟩:=al0 hR' (di0 (f:=bE0) (s:=5) (fun _=>rfl) zs i 2 z hz dC);obtain⟨g3,e3,-,c3⟩:=al0 hR' (di0 (f:=bE0) (s:=5) (fun _=>rfl) zs i 3 z hz dC);obtain⟨g4,e4,-,c4⟩:=al0 hR' (di0 (f:=bE0) (s:=5) (fun _=>rfl) zs i 4 z hz dC);rw[e] at e1 e2 e3 e4;cases e1;cases e2;cases e3;cases e4;exact⟨g,e,c0,c1,c2,c3,c4,hg⟩
 have HC:=hid hC;have HN:=hi2 hn hn2;have HAt:=hid hat;have HRf:=hid hrf;have HI:=hid (fun V (F:Fq w V)=>cells5 (F.heap hI id));have HDp:=hid (fun V (F:Fq w V)=>eX0 (F.heap hD id:aj0 V bd s x));rw[hg] at HDp;clear hR hm hn hn2 hat hrf hC hI hD hg;go_enter Tryz.func149,Tryz.ntmps149;go_wp2_with fail
 go_loopw [5] (fun iv wr=>∃ i:Nat,iv = .int .i64 i/\(i=n\/i<n/\t.lo g i=i)/\Fq w wr) (fun iv _=>n-(intOf iv).toNat)
 case atStart =>
  refine⟨0,rfl,.inr ⟨by rw[HN.out.2];exact lW9 dC,rc0 t g hh⟩,Fr.refl _ _⟩
 case round =>
  obtain⟨i,rfl,hi,hF⟩:=hrel;rcases hi with rfl|⟨hlt,hlo⟩
  ·have hd:decide ((i:Int)<(i:Int))=false:=by simp
   have HF:=hid hF;clear hF;go_wp2_with fail
   go_ret;exact⟨rfl,HF.out⟩
  ·have hd:decide ((i:Int)<(n:Int))=true:=by simp;omega
   have hki:(i:Int)<(n:Int):=oM
   obtain⟨z,hz,hzs⟩:=HAt.out i hlt;obtain⟨⟨d,p,r,es⟩,hat⟩:∃ s,t.at_ g i 0 0=s:=⟨_,rfl⟩
   rw[hat] at hzs;obtain⟨hdg,hp,hpi,hwd,hsl⟩:=rH0 hh (by rw[<- HN.out.2];exact hlt) hlo hat;have hnx:=mO0 t g i _ hh (by rw[<- HN.out.2];exact hlt) hlo rfl;rw[hwd,<- HN.out.2] at hnx;obtain⟨q,hq⟩:=eX (2^(g-d))
   have hq0:0<q:=by rw[<- hq];exact lW9 dC
   rw[hq] at hnx hpi hsl;have HMs:=hid (fun V=>lg0 (p:=p) (d:=d) (g:=g) hdg oM hp V);rw[hq] at HMs;obtain⟨gb,rfl,c0,c1,c2,c3,c4,hgl⟩:=HC.out i z hz _ hF;rw[hzs] at c0 c1 c2 c3 c4;simp only at c0 c1 c2 c3 c4;obtain⟨n3,hn3⟩:=eX es.length
   rw[hn3] at c4;obtain⟨b9,hb9⟩:=eX wr.heap.size
   obtain⟨W1,hW1⟩:=eX (wr.alloc (.cells #[.int .i64 d,.int .i64 p,.slice z.va n3 z.vc] 129))
   have F1:Fq wr W1:=by rw[<- hW1];exact (Fr.refl _ _).alloc _
   have p9:W1.heap[b9]?=some (.cells #[.int .i64 d,.int .i64 p,.slice z.va n3 z.vc] 129):=by rw[<- hW1,<- hb9];exact han _ _
   have HW1:=hid hW1;have HB9:=hid hb9;have HF1:=hid (hF.trans F1 nI);have HK:=hid (fun V (F:Fq W1 V)=>aI (cells3 (F.heap p9 id)) (HI.out V ((hF.trans F1 nI).trans F nI)));have HS:=hi2 hnx (aI hpi (aI hsl (aI hz hzs)));have hdl:decide ((g:Int)<(d:Int))=false:=decide_eq_false oM;have FD:=(Fr.refl (fun _=>False) W1).drew;clear hnx hpi hsl hz hzs hwd hat hn3 hW1 hb9 p9 F1 hF hlo hp;go_upto_region 4 with fail
   rw[HW1.out];try simp only[HB9.out]
   clear c0 c1 c2 c3 c4 hgl;refine wp_region_noPanic ?_;refine aq0 (fun V=>Fq W1 V) (.rd 0 (.rd 1 (.rd 2 (.rd 3 (.rd 4 (.rd 5 (.op 6 (.rd 7 .done)))))))) kF kF kF (fun _ _ _ _ _ h=>h) FD ?_;iterate 6
    try simp only[Act.put,sI,sZ,sS]
    refine ay0 _ ?_ gF rF ?_ ?_;rotate_left
    ·intro V hV;obtain⟨⟨t0,t1,t2,tz,tl⟩,i0,i1,i2,i3,i4,iz,il⟩:=HK.out V hV;go_simp;try with_reducible rfl
   try simp only[Act.put,sI,sZ,sS]
   refine az0 _ gF rF (fun K hK=>?_);go_simp
   (with_reducible refine (HDp.out _ (HF1.out.trans FD nI)).mono ?_)
   rintro _ _ ⟨rfl,rfl⟩;refine hK _ _ FD ?_;clear hK K;try simp only[Act.put,sI,sZ,sS]
   refine ay0 _ ?_ gF rF ?_ ?_;rotate_left
   ·intro V hV;go_simp;try with_reducible rfl
   refine ar0 ?_;refine NoPanic.normal ?_;try simp only[Act.put,sI,sZ,sS]
   go_upto_region 6 with fail
   refine wp_region_noPanic ?_;refine aq0 (fun V=>Fq W1 V) (.rd 0 (.rd 1 (.rd 2 (.rd 3 (.rd 4 (.rd 5 (.rd 6 (.rd 7 (.op 8 (.op 9 (.rd 10 .done))))))))))) kF kF kF (fun _ _ _ _ _ h=>h) FD.drew ?_;iterate 8
    try simp only[Act.put,sI,sZ,sS]
    refine ay0 _ ?_ gF rF ?_ ?_;rotate_left
    ·intro V hV;obtain⟨⟨t0,t1,t2,tz,tl⟩,i0,i1,i2,i3,i4,iz,il⟩:=HK.out V hV;go_simp;try with_reducible rfl
   try simp only[Act.put,sI,sZ,sS]
   refine az0 _ gF rF (fun K hK=>?_);go_simp
   (with_reducible refine (HDp.out _ (HF1.out.trans FD.drew nI)).mono ?_)
   rintro _ _ ⟨rfl,rfl⟩;refine hK _ _ FD.drew ?_;clear hK K;try simp only[Act.put,sI,sZ,sS]
   refine az0 _ gF rF (fun K hK=>?_);go_simp
   (with_reducible refine (HMs.out _).mono ?_)
   rintro _ V5 ⟨va,vc,rfl,hO5,F5⟩;have G5:=FD.drew.trans F5 nI;refine hK _ _ G5 ?_;clear hK K;try simp only[Act.put,sI,sZ,sS]
   refine ay0 _ ?_ gF rF ?_ ?_;rotate_left
   ·intro V hV;go_simp;try with_reducible rfl
   refine ar0 ?_;refine NoPanic.normal ?_;try simp only[Act.put,sI,sZ,sS]
   rw[kc0] at hO5 ⊢;have hoc:∀ m,m<q->((slZ p q q).map (Value.int .i64))[m]?=some (.int .i64 ((i+m:Nat):Int)):=fun m hm=>by
    rw[gP,slZ,gP,List.getElem?_range hm,<- HS.out.2.1];rfl
   obtain⟨g5,rfl,hg5,o0⟩:=al0 hO5 (hoc 0 hq0);have HO:=hid (fun (m:Nat) (hm:m<q) (V:World) (F:Fq V5 V)=>show V.cell? ⟨g5,m,none⟩=some (.int .i64 ((i+m:Nat):Int))/\g5<V.heap.size by
    obtain⟨g',e',hg',o⟩:=al0 (oN hO5 F) (hoc m hm);cases e';exact⟨o,hg'⟩)
   have HF5:=hid (HF1.out.trans G5 nI);have hqz:((q:Int) == 0)=false:=by simp;omega
   have hqi0:(0:Int)<(q:Int):=oM
   have hnx:=HS.out.1;have hiq:i+q<=n:=by rcases hnx with h|h <;> omega
   clear hO5 hoc FD F5 G5 hnx;go_wp2_with fail
   go_loopw [49] (fun mv wr2=>∃ m:Nat,m<=q/\mv = .int .i64 m/\Fq V5 wr2) (fun mv _=>q-(intOf mv).toNat)
   case atStart=>exact⟨0,la9 _,rfl,Fr.refl _ _⟩
   case round =>
    obtain⟨wq,rfl⟩:∃ W:World,W=wr:=⟨_,rfl⟩
    obtain⟨m,hm,rfl,hFq⟩:=hrel;by_cases hlt2:m<q
    ·have hmi:(m:Int)<(q:Int):=oM;obtain⟨o,hgo⟩:=HO.out m hlt2 wq hFq;obtain⟨z',hz',-⟩:=HAt.out (i+m) oM;have hr':=HRf.out _ _ hz';rw[HS.out.2.2.1 (i+m) oM oM] at hr';have hr2:r=z'.s.2.2.1:=Option.some.inj hr';obtain⟨gb',e',c0,c1,-,-,-,hgl⟩:=HC.out (i+m) z' hz' _ (HF5.out.trans hFq nI);cases e';obtain⟨gb',e',k0,k1,-⟩:=HC.out i z HS.out.2.2.2.1 _ (HF5.out.trans hFq nI);cases e';rw[<- hr2] at c0 c1;rw[HS.out.2.2.2.2] at k0 k1;simp only at k0 k1;obtain⟨im,him⟩:=eX (i+m)
     rw[him] at o c0 c1;have himi:(im:Int)<(n:Int):=oM;have hNe:∀ W,(binOp .neq 35 (.agg #[.int .i64 r.1,.int .i64 r.2]) (.agg #[.int .i64 r.1,.int .i64 r.2])).run Tryz.prog W = .ok (.bool false) W:=fun W=>by rw[vL0];simp
     have HFq:=hid hFq;clear hz' hr' hr2 him hFq;go_wp2_with fail
     go_quiet (fail)
     go_wp2_with fail
     go_roundw;case rel=>exact⟨m+1,hlt2,by go_num,HFq.out.trans ((Fr.refl _ _).drewN _) nI⟩
     case measure=>simp[intOf];omega
    ·obtain rfl:m=q:=by omega
     have hmi:¬ (m:Int)<(m:Int):=oM;have HFq:=hid (HF5.out.trans hFq nI);have HNx:=hid HS.out.1;clear hFq;go_wp2_with fail
     go_roundw;case rel=>exact⟨i+m,by go_num,HNx.out,HFq.out⟩
     case measure=>simp[intOf];omega
structure Opn (y:Cs)(P:aQ0)(x:aL0)(t:Tr)(au0:List Rf)(L:List Bp):Prop where
 oy:∃ gen c,yl0 y gen c
 dir:fC0 y x au0 (t.slots x.depth)
 bk:∀ q ∈ L,aF0 q.1/\y.cont q.1.1=some (q.1.2.toNat,q.2)
 perm:L.Perm (lds t 0 0)
 nd:(pgs x.rp au0++bpg L).Nodup
 lt:∀ k ∈ pgs x.rp au0++bpg L,k<108
 prot:∀ k:Nat,P (12+k)≠none->k ∈ pgs x.rp au0++bpg L
 high:t.high=x.depth
 ok:okT t 0 0
 per:x.per=6/\x.most=3
section
variable {y:Cs}{P:aQ0}{x:aL0}{t:Tr}{au0:List Rf}{L:List Bp}{w':World}{B:Blk}{bx bd N:Nat}
theorem Opn.len (h:Opn y P x t au0 L):L.length<=8/\au0.length<=2/\x.depth<=3:=by
 have h1:=uM0 (t:=t) (by rw[h.high];have:=h.dir.z.most.1;have:=h.per.2;omega);have h2:=kx0 h.per h.dir.z.most.1;exact⟨by rw[h.perm.length_eq,hQ0];exact h1,by rw[h.dir.tlen];exact h2.1,by have:=h.dir.z.most.1;have:=h.per.2;omega⟩
theorem Opn.mid (h:Opn y P x t au0 L)(hS:aw0 w' B y ⟨P,true⟩ false N)(hI:cn0 w' bx B.s bd 3 3 0)(hD:aj0 w' bd B.s x)(hb:B.base<=bd/\B.base<=bx):fk0 w' B bx bd y ⟨P,true⟩ false N x t 0:=by
 obtain⟨gen,c,ho⟩:=h.oy;exact⟨⟨au0,L,⟨hS,hI,hD,h.dir,⟨h.nd,fun e=>by cases e⟩,h.bk,by have:=h.len;omega,ho.plan,ho.pages,ho.room,ho.places,h.per,hb⟩,h.perm⟩,h.high,h.ok⟩
theorem Opn.rows (h:Opn y P x t au0 L):∀ r ∈ ((x.rp,x.rs) :: au0)++t.slots x.depth,0<=r.1/\r.1<108:=fun r hr=>by
 have hk:0<=r.1/\r.1.toNat ∈ pgs x.rp au0++bpg L:=by
  rcases lb9.1 hr with h1|h1
  ·refine⟨?_,lN9 _ (show r.1.toNat ∈ List.map (fun r:Rf=>r.1.toNat) ((x.rp,x.rs) :: au0) from ld9.2 ⟨r,h1,rfl⟩)⟩;rcases lA9.1 h1 with rfl|h1
   ·exact h.dir.rr.1
   ·exact (h.dir.leaf.tr r h1).1
  ·obtain⟨q,hq,rfl⟩:=(sQ0 (ll9 h.high) h.perm r).1 h1;exact⟨(h.bk q hq).1.1,lu9 _ (ld9.2 ⟨q,hq,rfl⟩)⟩
 have:=h.lt _ hk.2;omega
theorem Opn.done (h:Opn y P x t au0 L)(hS:aw0 w' B { y with taken:=tkR (((x.rp,x.rs) :: au0)++t.slots x.depth) } ⟨P,true⟩ false N)(hI:cn0 w' bx B.s bd 3 3 0)(hD:aj0 w' bd B.s x)(hb:B.base<=bd/\B.base<=bx) :
  fk0 w' B bx bd { y with taken:=tkR (((x.rp,x.rs) :: au0)++t.slots x.depth) } P false N x t 0:=by
 obtain⟨gen,c,ho⟩:=h.oy;have hln:=h.len;have htk:=xR0 (rp:=x.rp) (rs:=x.rs) (au0:=au0) (ll9 h.high) h.perm (fun r hr=>(h.rows r hr).1);have hfr:∀ k,y.fresh k=false:=fun k=>by rw[ho.fresh]
 have hdy:∀ k,y.dying k=false:=fun k=>by rw[ho.dying]
 have hde:∀ k,y.dead k=false:=fun k=>by rw[ho.dead]
 have hlv:Live { y with taken:=tkR (((x.rp,x.rs) :: au0)++t.slots x.depth) } (pgs x.rp au0++bpg L) 11:=by
  refine⟨h.nd,fun k hk=>by show k<y.pages;rw[ho.pages];exact h.lt k hk,fun k hk=>⟨(htk k).2 hk,hdy k,hde k⟩,fun k _ hk=>.inl ((htk k).1 hk),⟨[],fun k hk=>?_,?_⟩,⟨[],fun k hk=>?_,by simp⟩⟩
  ·have hk':y.dying k=true:=hk;rw[hdy] at hk';cases hk'
  ·have:=lD9 (fun k:Nat=>!({ y with taken:=tkR (((x.rp,x.rs) :: au0)++t.slots x.depth) }:Cs).fresh k) (pgs x.rp au0++bpg L);simp only[pgs,bpg,lA,lC,ln9,lz9] at this ⊢;omega
  ·have hk':y.dead k=true:=hk;rw[hde] at hk';cases hk'
 refine⟨⟨au0,L,⟨hS.shut (fun k hk hne=>?_),hI,hD,h.dir.keeps rfl rfl (fun _ _=>rfl),hlv.r _,h.bk,oM,ho.plan,ho.pages,ho.room,ho.places,h.per,hb⟩,h.perm⟩,h.high,h.ok⟩;have hne':P (y.first+k)≠none:=hne;rw[ho.first] at hne';exact⟨(htk k).2 (h.prot k hne'),hfr k⟩
end
def OpU (B:Blk)(y:Cs)(P:aQ0)(N:Nat)(x:aL0)(t:Tr)(w:World)(e:Ending)(w':World):Prop:=
 ∃ (bx bd:Nat) (y':Cs),e = .returned (.tuple #[cG0 bx,.int .i64 0])/\FrB B w w'/\(w.heap.size<=bx/\w.heap.size<=bd)/\fk0 w' B bx bd y' P false N x t 0/\(y'.gen=y.gen/\y'.first=y.first)
theorem ry0 {w':World}{o:Obj}{row:Option Nat}(h:(w.alloc o).grownBy w' row):Fr (fun b=>some b=row) w w':=
 ((Fr.refl _ _).alloc _).trans (S':=fun b=>some b=row) ⟨h.os,h.tape,h.output,h.size,fun b hb hn=>h.block b hb hn⟩ (fun b hb h=>h)
theorem vj0 {B:Blk}{y:Cs}{P:aQ0}{N:Nat}{au0:List Rf}{L:List Bp}(hS:aw0 w B y ⟨P,true⟩ false N)(h:Opn y P x t au0 L)(hb:B.base<=w.heap.size)(hN:N+30<=90000) :
  Calls Tryz.prog 78 #[B.ptr,.int .i64 x.depth,fT0 x.rp x.rs] w (OpU B y P (N+13) x t w):=by
 have hln:=h.len;obtain⟨gen,c,ho⟩:=h.oy;have hfit:cj0 y.plan=true:=by rw[ho.plan];exact bU0
 have h0:0<w.heap.size:=by have:=hS.base;omega
 obtain⟨g,hg⟩:=eX x.depth
 have hx:({ atZ y.plan with depth:=x.depth,rp:=x.rp,rs:=x.rs }:aL0)=x:=by
  have hz:=h.per;rw[ho.plan,AK0];obtain⟨p1,p2,p3,p4,p5⟩:=x;obtain⟨rfl,rfl⟩:=hz;rfl
 have HOp:=hid (fun V (F:Fq w V)=>by
  have:=mE0 (hS.fr0 F) hfit x.depth x.rp x.rs (by rw[ho.plan];show (x.depth:Int)<=3;omega);rw[hx,hg] at this;exact this)
 have HOn:=hid (fun V (F:Fq w V)=>vB0 (hS.fr0 F) hfit);obtain⟨w1,hw1⟩:=eX (w.alloc (.cells #[.int .i64 x.rp,.int .i64 x.rs] 35))
 have F1:Fq w w1:=by rw[<- hw1];exact (Fr.refl _ _).alloc _
 obtain⟨x0,x1,xz,xl⟩:=cells2 (show w1.heap[w.heap.size]?=some (.cells #[.int .i64 x.rp,.int .i64 x.rs] 35) by rw[<- hw1];exact han _ _);have HW1:=hid hw1;have HF1:=hid F1;have HH:=hi2 h (aI hS (aI hb (aI hN (aI h0 hln))));have HPl:=hid ho.plan;have HG:=hid hg;rw[hg];clear hw1 F1 h hS hb hN ho hfit hx hln hg;go_enter Tryz.func78,Tryz.ntmps78;go_upto_region 1 with fail
 rw[HW1.out];go_wp2_with fail
 refine (HOp.out _ HF1.out).mono ?_;rintro e w2 ⟨bd,rfl,hD,hge,F2⟩;have HD2:=hi2 hD (aI hge (HF1.out.trans F2 nI));clear hD hge F2 x0 x1 xz xl;go_wp2_with fail
 refine (HOn.out _ HD2.out.2.2).mono ?_;rintro e w3 ⟨bx,rfl,hbx,hbxl,F3⟩;rw[HPl.out,vN0] at hbx;have F03:=HD2.out.2.2.trans F3 nI;have hD3:aj0 w3 bd B.s x:=F3.heap HD2.out.1 id;obtain⟨i0,i1,i2,i3,i4,iz,il⟩:=cells5 hbx;have hne:bd≠bx:=fun e=>by unfold aj0 at hD3;rw[e,hbx] at hD3;cases hD3
 obtain⟨w4,hw4⟩:=eX (w3.setCell ⟨bx,1,none⟩ (cR0 bd))
 have F4:Fr (fun k=>k=bx) w3 w4:=by rw[<- hw4];exact (Fr.refl (fun k=>k=bx) w3).setCell (a:=⟨bx,1,none⟩) (fun _=>rfl) _
 have hI4:cn0 w4 bx B.s bd 3 3 0:=by rw[<- hw4];exact hsc _ _ _ _ hbx
 have hD4:aj0 w4 bd B.s x:=F4.heap hD3 hne;have hbw:w.heap.size<=bx/\w.heap.size<=bd:=⟨nT HD2.out.2.2.size hbxl,nT HF1.out.size HD2.out.2.1⟩;have F04:Fq w w4:=F03.trans F4 (fun b hb' e=>oM);have hS4:=HH.out.2.1.fr0 F04;have hM4:=HH.out.1.mid hS4 hI4 hD4 ⟨by have:=HH.out.2.2.1;omega,by have:=HH.out.2.2.1;omega⟩;have HPg:=hid (uc0 hS4 hD4 HH.out.1.dir (by have:=HH.out.2.2.2.1;omega));have H4:=hi2 F04 (aI hM4 hbw);have HW4:=hid hw4;clear F03 hD3 hw4 F4 hI4 hD4 hbw F04 hS4 hM4 hbx hbxl F3;go_upto_region 6 with fail
 rw[HW4.out];clear i0 i1 i2 i3 i4 iz il;go_wp2_with fail
 refine HPg.out.mono ?_;rintro e w5 ⟨v5,err,rfl,F5,⟨rfl,ho5,hS5⟩|⟨_,ha,_⟩⟩;rotate_left
 ·cases ha
 obtain⟨tops',L',hMx,hPx⟩:=H4.out.2.1.ex;have hT5:fk0 w5 B bx bd y ⟨P,true⟩ false (N+1) x t 0:=⟨⟨tops',L',hMx.frB F5 hS5,hPx⟩,H4.out.2.1.high,H4.out.2.1.ok⟩;have HSl:=hid (lJ0 hT5 (by have:=HH.out.2.2.2.1;omega));have H5:=hi2 F5 ho5;clear hMx hPx hT5 F5 ho5 hS5 HPg;go_wp2_with fail
 refine HSl.out.mono ?_;rintro e w6 ⟨v6,zs,rfl,F6,ho6,hm6,-,hT6⟩;obtain⟨tops6,L6,hM6,-⟩:=hT6.ex;rw[HG.out] at hm6;have hg3:g<=3:=by have:=HH.out.2.2.2.2.2;have:=HG.out;omega
 have hht:t.high<=g:=by rw[<- HG.out];exact ll9 HH.out.1.high
 have HSh:=hid (qx0 hM6.idx hM6.dir HG.out hht hg3 ho6 hm6);have H6:=hi2 (FrB.trans H5.out.1 F6) (aI (fX0 H5.out.2 dC F6) (aI ho6 (aI hm6 hM6.st)));clear F6 ho6 hm6 hT6 hM6 HSl;go_wp2_with fail
 refine HSh.out.mono ?_;rintro e w7 ⟨rfl,F7⟩;obtain⟨a6,c6,rfl,-,-,-,-⟩:=oSl H6.out.2.2.1;obtain⟨n,hn⟩:=eX zs.length
 have hz7:=oN H6.out.2.2.1 F7;have h17:=FrB.trans H6.out.1 (FrB.none (B:=B) F7);have hS7:=H6.out.2.2.2.2.fr0 F7;have hrf:∀ (i:Nat) (z:Slt),zs[i]?=some z->(t.slots g)[i]?=some z.s.2.2.1:=fun i z hz=>by
  rw[<- bD0 t g 0 0,<- H6.out.2.2.2.1,mP9,gP,hz];rfl
 have hzl:n=2^g:=by
  have:=congrArg List.length H6.out.2.2.2.1;rw[ln9,hn,cI0 _ _ _ _ hht] at this;exact this
 have hn8:n<=8:=by rw[hzl];exact nT (lc9 dC hg3) dC
 have hsl:(t.slots g).length=n:=by rw[Tr.ba0 t g hht,hzl]
 rw[hn] at hz7 ⊢;obtain⟨b4,hb4⟩:=eX w4.heap.size
 obtain⟨b5,hb5⟩:=eX w5.heap.size
 have ho7:=oN H6.out.2.1 F7;rw[hb4] at ho7;rw[hb5] at hz7;obtain⟨l4,hl4⟩:=eX ((x.rp,x.rs) :: au0)
 rw[hl4] at ho7;have HL4:=hid hl4;have H7:=hi2 ho7 (aI hz7 (aI h17 hS7));have HZ:=hi2 hn (aI hrf (aI hsl hb4));obtain⟨j0,hj0,jz0,jz1,jz2⟩:=info_parts Tryz.js0;have HJ:=hi2 hj0 (aI jz0 (aI jz1 jz2));have h40:0<b4:=by rw[<- hb4];exact nLL HH.out.2.2.2.2.1 H4.out.1.size
 have hl4n:l4.length<=3:=by have:=HH.out.2.2.2.2.2;rw[<- hl4,lC];omega
 clear F7 ho7 hz7 h17 hS7 hn hrf hzl hb5 hl4 hj0 jz0 jz1 jz2 HSh hb4 hsl;go_wp2_with fail
 go_loopw [11,56] (fun v iv wr=>∃ k:Nat,k<=n/\iv = .int .i64 k/\dC0 wr b4 v (l4++(t.slots g).take k)/\wr.ownsRow b5 131 5 (.slice a6 n c6) n (zs.flatMap bE0)/\FrB B w4 wr/\aw0 wr B y ⟨P,true⟩ false (N+1+12)) (fun _ iv _=>n-(intOf iv).toNat)
 case atStart=>exact⟨0,la9 _,rfl,by rw[List.take_zero,mF9];exact H7.out.1,H7.out.2.1,H7.out.2.2.1,H7.out.2.2.2⟩
 case round =>
  obtain⟨k,hk,rfl,hO,hZr,hF,hSr⟩:=hrel;by_cases hlt:k<n
  ·have hd:decide ((k:Int)<(n:Int))=true:=by simp;omega
   have hki:(k:Int)<(n:Int):=oM
   have hkw:wrap64 ((k:Int)+1)=((k+1:Nat):Int):=bM0 oM;obtain⟨⟨⟨d,p,r,es⟩,va,vc⟩,hz⟩:∃ z,zs[k]?=some z:=⟨_,gE (by rw[HZ.out.1];exact hlt)⟩
   have hr:=HZ.out.2.1 k _ hz;simp only at hr;obtain⟨gb,rfl,hgb,c0⟩:=al0 hZr (di0 (f:=bE0) (s:=5) (fun _=>rfl) zs k 0 _ hz dC);obtain⟨g',e',-,c1⟩:=al0 hZr (di0 (f:=bE0) (s:=5) (fun _=>rfl) zs k 1 _ hz dC);cases e';obtain⟨g',e',-,c2⟩:=al0 hZr (di0 (f:=bE0) (s:=5) (fun _=>rfl) zs k 2 _ hz dC);cases e';obtain⟨g',e',-,c3⟩:=al0 hZr (di0 (f:=bE0) (s:=5) (fun _=>rfl) zs k 3 _ hz dC);cases e';obtain⟨g',e',-,c4⟩:=al0 hZr (di0 (f:=bE0) (s:=5) (fun _=>rfl) zs k 4 _ hz dC);cases e';obtain⟨n3,hn3⟩:=eX es.length
   simp only[hn3] at c0 c1 c2 c3 c4;rw[Nat.add_zero] at c0;obtain⟨b9,hb9⟩:=eX wr.heap.size
   obtain⟨W1,hW1⟩:=eX (wr.alloc (.cells #[.int .i64 r.1,.int .i64 r.2,.int .i64 d,.int .i64 p,.slice va n3 vc] 131))
   have F1:Fq wr W1:=by rw[<- hW1];exact (Fr.refl _ _).alloc _
   obtain⟨t0,t1,t2,t3,t4,tz,tl⟩:=cells5 (show W1.heap[b9]?=some (.cells #[.int .i64 r.1,.int .i64 r.2,.int .i64 d,.int .i64 p,.slice va n3 vc] 131) by rw[<- hW1,<- hb9];exact han _ _);have HW1:=hid hW1;have HB9:=hid hb9;have hll:(l4++(t.slots g).take k).length<=11:=by rw[lA,lT];omega
   have HO1:=hi2 (oN hO F1) (aI (oN hZr F1) (aI (FrB.trans hF (FrB.none F1)) (hSr.fr0 F1)));have hb4w:b4<=W1.heap.size:=by have:=HZ.out.2.2.2;have:=(FrB.trans hF (FrB.none F1)).size;omega
   have HR:=hi2 hr hll;clear hO hZr hF hSr hz hr hW1 hb9 F1 hn3;go_upto_region 17 with fail
   rw[HW1.out];try simp only[HB9.out]
   clear c0 c1 c2 c3 c4 hgb;go_wp2_with (at_builtin;refine wpList_append_own_at _ rfl (.tmp 60) (.tmp 63) 33 rfl b4 35 j0 _ 2 16 Tryz.underlying33 HJ.out.1 HJ.out.2.1 HJ.out.2.2.1 HJ.out.2.2.2 rfl dC _ _ _ rfl (HO1.out.1.alloc _) ⟨W1.heap.size,0,none⟩ 1 1 [.int .i64 r.1,.int .i64 r.2] rfl rfl (World.news_of_block (cs:=#[.int .i64 r.1,.int .i64 r.2]) (t:=35) (fr:=(0,0)) (han _ _)) (by simp[Value.oneCell']) (by simp only[maxLen];omega) oM sO ?_)
   intro v8 W8 hown8 hg8 hnil8 hat8;have F8:=ry0 hg8;have H8:=hi2 hown8 (aI (oRf HO1.out.2.1 F8 (fun g c hg e=>by obtain⟨-,c',hc⟩:=oBT HO1.out.1 e;rw[hc] at hg;cases hg)) (aI (Fr.trans HO1.out.2.2.1 F8 (fun b hb e=>by have:=(oBT HO1.out.1 e).1;have:=HZ.out.2.2.2;omega)) (HO1.out.2.2.2.grown HO1.out.1 dC h40 hg8)));clear hown8 hg8 hnil8 hat8 F8 t0 t1 t2 t3 t4 tz tl hll;go_wp2_with fail
   go_roundw;case rel =>
    refine⟨k+1,hlt,by go_num,?_,H8.out.2⟩;have e1:l4++(t.slots g).take (k+1)=(l4++(t.slots g).take k)++[r]:=(by rw[lw9,HR.out.1];simp);show W8.ownsRow _ 35 2 _ _ _;rw[e1];have h8:=H8.out.1;simp only[li9,lA,lT,mn9,lj9,List.flatMap_nil,mF9,lm9] at h8 ⊢;exact h8
   case measure=>simp[intOf];omega
  ·obtain rfl:k=n:=by omega
   have hd:decide ((k:Int)<(k:Int))=false:=by simp
   rw[tL (ll9 HZ.out.2.2.1),<- HL4.out] at hO;obtain⟨gen,c,ho⟩:=HH.out.1.oy;have hy:({ y with taken:=tkR [] }:Cs)=y:=by
    have e:=ho.taken;obtain⟨y1,y2,y3,y4,y5,y6,y7,y8,y9,y10,y11,y12,y13,y14⟩:=y;simp only at e;subst e;rfl
   rw[<- hy] at hSr;have hrw:=HH.out.1.rows;rw[HG.out] at hrw;have hln:=HH.out.2.2.2.2.2;have HMk:=hid (vk0 hSr hO (by rw[lA,HZ.out.2.2.1,lC];omega) (fun r hr=>by have h1:=hrw r hr;have h2:y.pages=108:=ho.pages;exact⟨h1.1,by rw[h2];exact h1.2⟩) (uE0 (L:=L) (by rw[<- HG.out];exact ll9 HH.out.1.high) HH.out.1.perm HH.out.1.nd));have HF:=hid hF;clear hO hZr hF hSr hy ho hrw;go_wp2_with fail
   refine HMk.out.mono ?_;rintro _ W9 ⟨rfl,F9,hS9⟩;have H9:=hi2 (FrB.trans HF.out F9) hS9;clear F9 hS9;go_wp2_with fail
   go_ret2;obtain⟨tops4,L5,hM4,-⟩:=H4.out.2.1.ex;have hS9:=H9.out.2;rw[<- HG.out] at hS9;exact⟨bx,bd,_,rfl,FrB.trans (FrB.none H4.out.1) H9.out.1,H4.out.2.2,HH.out.1.done hS9 (bA0 hM4.idx H9.out.1) (hM4.dir.frB H9.out.1) hM4.base,rfl,rfl⟩
def SOp (w0:World)(base bs bv:Nat)(N gen:Nat)(rp rs:Int)(tw:Tr)(V:World):Prop:=
 ∃ (B:Blk) (y:Cs) (P:aQ0) (x:aL0) (t:Tr) (au0:List Rf) (L:List Bp),(aw0 V B y ⟨P,true⟩ false N/\Opn y P x t au0 L/\Cmt P x t)/\bare t=tw/\(x.rp=rp/\x.rs=rs)/\(B.base=base/\B.s=bs/\B.d=bv)/\Fq w0 V/\base=w0.heap.size/\(y.gen=gen+1/\y.first=12)
section
variable {w0 V V':World}{base bs bv bx N G gen:Nat}{P:aQ0}{t tw:Tr}{sp rp rs:Int}
theorem us0 (h:KqP w0 base bs bv bx P false N G t sp V)(hc:yz0 P rp rs tw)(hg:gen<=1099511627776) :
  Calls Tryz.prog 30 #[.pointer (some ⟨bv,0,none⟩),aE0.val,.int .i64 gen] V (fun e w'=>∃ bs':Nat,e = .returned (.tuple #[.pointer (some ⟨bs',0,none⟩),.int .i64 0])/\Fq V w'/\SOp w0 base bs' bv N gen rp rs tw w'):=by
 obtain⟨x,t1,hC,ht1,hx⟩:=hc;obtain⟨P',c,au0,L,h1,hC',h3,h4,h5,h6,h7,h8⟩:=hC.narrow;obtain⟨B,bd,y,x0,t',hT,-,⟨hB,-,rfl⟩,hF,hbs,-,hf⟩:=h;obtain⟨tops0,L0,hM,-⟩:=hT.ex;refine (uL0 hM.st ⟨hf,hM.pages,hM.room⟩ gen hg h1 h3).mono ?_;rintro e w' ⟨B',y',⟨e1,e2⟩,rfl,hS,F,hO⟩;obtain⟨d1,d2⟩:=h5 y' hO.cont hO.room;exact⟨B'.s,rfl,F,B',y',P',x,t1,au0,L,⟨hS,⟨⟨gen,c,hO⟩,d1,d2,h6,h7,h8,h4,hC.high,hC.ok,hC.per⟩,hC'⟩,ht1,hx,⟨e1.trans hB,rfl,e2⟩,hF.trans F nI,hbs.1,hO.gen,hO.first⟩
theorem uu0 (h:SOp w0 base bs bv N gen rp rs tw V)(hN:N+30<=90000) :
  Calls Tryz.prog 78 #[.pointer (some ⟨bs,0,none⟩),.int .i64 tw.high,fT0 rp rs] V (fun e w'=>∃ (bx':Nat) (P':aQ0),e = .returned (.tuple #[cG0 bx',.int .i64 0])/\FrI base V w'/\KqP w0 base bs bv bx' P' false (N+13) (gen+1) tw 0 w'/\yz0 P' rp rs tw):=by
 obtain⟨B,y,P,x,t,au0,L,⟨hS,hO,hC⟩,rfl,⟨rfl,rfl⟩,⟨hB,rfl,rfl⟩,hF,hb,hg⟩:=h;have hbl:=hF.size;rw[bq0,hO.high];refine (vj0 hS hO oM hN).mono ?_;rintro e w' ⟨bx',bd,y',rfl,F,⟨hx1,hx2⟩,hT,hg'⟩;have FI:FrI base V w':=by rw[<- hB];exact dd0 F
 exact⟨bx',P,rfl,FI,⟨B,bd,y',x,t,hT,rfl,⟨hB,rfl,rfl⟩,FI.fr0 (ll9 hb.symm) hF,⟨hb,oM,oM⟩,hg'.1.trans hg.1,hg'.2.trans hg.2⟩,x,t,hC,rfl,rfl,rfl⟩
