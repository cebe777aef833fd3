/- A pack of texts. Conditions: those that each names. -/
import Derived.Test.YtgdhaaokolfdoaaGreatDoorNBK
set_option maxHeartbeats 16000000
set_option maxRecDepth 100000
set_option linter.all false
namespace Go.Proofs.YtgdhaaokolfdoaaGreatDoor
open Tryz
section
open Go.RowKit Go.Sg Go.Sg.Bits Go.Sg.r4 CP SF
def tj0 (t:Tr)(g:Nat)(h:t.high<=g):t.lo g 0=0:=by
 have:=(Tr.lo_le t g 0 h (iu dC)).1;omega
def XE:∀ (t:Tr) (g i q:Nat),t.high<=g->i<2^g->t.lo g i=i->2^t.wd g i=q->i+q=2^g\/(i+q<2^g/\t.lo g (i+q)=i+q)
 | .leaf _ _,g,i,q,_,_,h,hq=>by
  simp only[Tr.lo] at h;simp only[Tr.wd] at hq;exact .inl oM
 | .node l r,g,i,q,hh,hi,h,hq=>by
  simp only[Tr.high] at hh;have h2:=Tr.se (g:=g) oM;simp only[Tr.lo] at h ⊢;simp only[Tr.wd] at hq;by_cases hlt:i<2^(g-1)
  .rw[if_pos hlt] at h hq;rcases XE l (g-1) i q oM hlt h hq with e|⟨e1,e2⟩
   .refine .inr ⟨oM,?_⟩;rw[e,if_neg oM,DT,tj0 r _ oM];rfl
   .exact .inr ⟨oM,by rw[if_pos e1];exact e2⟩
  .rw[if_neg hlt] at h hq;rcases XE r (g-1) (i-2^(g-1)) q oM oM oM hq with e|⟨e1,e2⟩
   .exact .inl oM
   .refine .inr ⟨oM,?_⟩;rw[if_neg oM,show i+q-2^(g-1)=i-2^(g-1)+q by omega,e2];omega
variable {t:Tr}{g:Nat}{w:w9}
def tL0 {i d p:Nat}{r:Rf}{es:List Bt}(hh:t.high<=g)(hi:i<2^g)(h:t.lo g i=i)(hz:t.at_ g i 0 0=(d,p,r,es)) :
  d<=g/\p<2^d/\p*2^(g-d)=i/\t.wd g i=g-d/\∀ j,i<=j->j<i+2^(g-d)->(t.slots g)[j]?=some r:=by
 have h1:=Tr.BH t g i 0 0;have h2:=Tr.OE t g i 0 0 hh;have h3:=Tr.QN t g i 0 0 hh;have h4:=Tr.Ma t g i 0 0 hh hi;rw[hz] at h1 h2 h3 h4;simp only at h1 h2 h3 h4;have hw:t.wd g i=g-d:=oM
 rw[h,uk,o8,hw] at h3;refine⟨oM,?_,h3.symm,hw,fun j Fj CY=>?_⟩
 .rw[h4,uk,o8,o8];refine Nat.div_lt_of_lt_mul ?_;rw[<- Aq,show g-d+d=g by omega];exact hi
 .obtain⟨l1,l2,l3⟩:=Tr.lo_le t g i hh hi;rw[h,hw] at l3;have:=jD0 hh hi r (fun _ _=>.leaf r es) fun _ _=>⟨es,rfl⟩;rw[show t.put g i (fun _ _=>.leaf r es)=t by
   have e:=BD t g i;have:∀ (t:Tr) (g k d p:Nat) (f f':Rf->List Bt->Tr),f (t.at_ g k d p).2.2.1 (t.at_ g k d p).2.2.2=f' (t.at_ g k d p).2.2.1 (t.at_ g k d p).2.2.2->t.put g k f=t.put g k f':=fun t=>by
    induction t with
    | leaf r es=>intro g k d p f f' h;exact h
    | node l r ihl ihr =>
     intro g k d p f f' h;simp only[Tr.at_,Tr.put] at h ⊢;split at h
     .rename_i hlt;rw[if_pos hlt,if_pos hlt,ihl _ _ _ _ _ _ h]
     .rename_i hlt;rw[if_neg hlt,if_neg hlt,ihr _ _ _ _ _ _ h]
   rw[this t g i 0 0 _ Tr.leaf (by rw[hz]),e]] at this
  rw[<- this,h,hw,oW,if_pos (LM.2 ⟨Fj,CY⟩),gE (by rw[Tr.uO t g hh];omega)];rfl
variable {x:P1}
def rY0 {bx bd s most sl:Nat}{sp:Int}(hI:dG w bx s bd sl most sp)(hD:N2 w bd s x)(hg:x.depth=g)(hh:t.high<=g)(Q3:g<=3){v:Value}{b0:Nat}{zs:List dm}(hR:w.ownsRow b0 131 5 v zs.length (zs.flatMap cU))(hm:zs.map (·.s)=iJ t g 0 0) :
  cP 149 #[O7 bx,v] w (bt (bO true) w):=by
 obtain⟨va,vc,rfl,-,-,-,-⟩:=A2 hR;obtain⟨n,hn⟩:=eX zs.length
 have ey:n=2^g:=by rw[<- hn,<- Il t g 0 0 hh,<- hm,Z8]
 have Di:n<=8:=by rw[ey];exact nT (aZ dC Q3) dC
 have G4:∀ i,i<n->∃ z,zs[i]?=some z/\z.s=t.at_ g i 0 0:=fun i hi=>by
  obtain⟨z,hz⟩:∃ z,zs[i]?=some z:=⟨_,gE oM⟩
  have h1:=Oo t g i 0 0 hh oM;rw[<- hm,gP,hz] at h1;exact⟨z,hz,Option.some.inj h1⟩
 have oh:∀ (i:Nat) (z:dm),zs[i]?=some z->(t.slots g)[i]?=some z.s.2.2.1:=fun i z hz=>by
  rw[<- EK t g 0 0,<- hm,xY,gP,hz];rfl
 rw[hn] at hR ⊢;have hC:=fun (i:Nat) (z:dm) (hz:zs[i]?=some z) (V:w9) (F:Fq w V)=>show ∃ g,va=some ⟨g,0,none⟩/\V.cell? (aA g (i*5))=some (iI z.s.2.2.1.1)/\V.cell? (aA g (i*5+1))=some (iI z.s.2.2.1.2)/\V.cell? (aA g (i*5+2))=some (iI z.s.1)/\V.cell? (aA g (i*5+3))=some (iI z.s.2.1)/\V.cell? (aA g (i*5+4))=some (sL z.va z.s.2.2.2.length z.vc)/\g<V.heap.size by
  have zB:=oN hR F;obtain⟨g,e,hg,c0⟩:=d8 zB (jt (f:=cU) (s:=5) (fun _=>rfl) zs i 0 z hz dC);obtain⟨g1,e1,-,c1⟩:=d8 zB (jt (f:=cU) (s:=5) (fun _=>rfl) zs i 1 z hz dC);obtain⟨g2,e2,-,c2⟩:=d8 zB (jt (f:=cU) (s:=5) (fun _=>rfl) zs i 2 z hz dC);obtain⟨g3,e3,-,c3⟩:=d8 zB (jt (f:=cU) (s:=5) (fun _=>rfl) zs i 3 z hz dC);obtain⟨g4,e4,-,c4⟩:=d8 zB (jt (f:=cU) (s:=5) (fun _=>rfl) zs i 4 z hz dC);rw[e] at e1 e2 e3 e4;cases e1;cases e2;cases e3;cases e4;exact⟨g,e,c0,c1,c2,c3,c4,hg⟩
 have HC:=hid hC;have HN:=hi2 hn ey;have kQ:=hid G4;have SD:=hid oh;have HI:=hid fun V (F:Fq w V)=>cells5 (F.heap hI id);have iA:=hid fun V (F:Fq w V)=>In (F.heap hD id:N2 V bd s x);rw[hg] at iA;clear hR hm hn ey G4 oh hC hI hD hg;go_enter func149,ntmps149;go_wp2_with fail
 go_loopw [5] (fun iv wr=>∃ i:Nat,iv = iI i/\(i=n\/i<n/\t.lo g i=i)/\Fq w wr) fun iv _=>n-(intOf iv).toNat
 case atStart =>
  refine⟨0,rfl,.inr ⟨by rw[HN.2];exact iu dC,tj0 t g hh⟩,fR⟩
 case round =>
  obtain⟨i,rfl,hi,hF⟩:=hrel;rcases hi with rfl|⟨hlt,oa⟩
  .have hd:decide ((i:Int)<(i:Int))=false:=by simp
   have HF:=hid hF;clear hF;go_wp2_with fail
   go_ret;exact⟨rfl,HF.o⟩
  .have hd:decide ((i:Int)<(n:Int))=true:=by simp;omega
   have cF:(i:Int)<(n:Int):=oM
   obtain⟨z,hz,dA⟩:=kQ.o i hlt;obtain⟨⟨d,p,r,es⟩,G4⟩:∃ s,t.at_ g i 0 0=s:=⟨_,rfl⟩
   rw[G4] at dA;obtain⟨fI,hp,KJ,hwd,X3⟩:=tL0 hh (by rw[<- HN.2];exact hlt) oa G4;have ay:=XE t g i _ hh (by rw[<- HN.2];exact hlt) oa rfl;rw[hwd,<- HN.2] at ay;obtain⟨q,hq⟩:=eX (2^(g-d))
   have pS:0<q:=by rw[<- hq];exact iu dC
   rw[hq] at ay KJ X3;have HMs:=hid fun V=>ml0 (p:=p) (d:=d) (g:=g) fI oM hp V;rw[hq] at HMs;obtain⟨gb,rfl,c0,c1,c2,c3,c4,fJ⟩:=HC.o i z hz _ hF;rw[dA] at c0 c1 c2 c3 c4;simp only at c0 c1 c2 c3 c4;obtain⟨n3,pN⟩:=eX es.length
   rw[pN] at c4;obtain⟨b9,R7⟩:=eX wr.heap.size
   obtain⟨W1,M2⟩:=eX (wr.alloc (.cells #[iI d,iI p,sL z.va n3 z.vc] 129))
   have F1:=fA M2
   have p9:W1.heap[b9]?=some (.cells #[iI d,iI p,sL z.va n3 z.vc] 129):=by rw[<- M2,<- R7];exact han _ _
   have R6:=hid M2;have qB:=hid R7;have E1:=hid (hF.trans F1 nI);have HK:=hid fun V (F:Fq W1 V)=>aI (cells3 (F.heap p9 id)) (HI V ((hF.trans F1 nI).trans F nI));have HS:=hi2 ay (aI KJ (aI X3 (aI hz dA)));have T6:decide ((g:Int)<(d:Int))=false:=decide_eq_false oM;have FD:=(Fr.refl (fun _=>False) W1).drew;clear ay KJ X3 hz dA hwd G4 pN M2 R7 p9 F1 hF oa hp;go_upto_region 4 with fail
   rw[R6];try simp only[qB.o]
   clear c0 c1 c2 c3 c4 fJ;refine wp_region_noPanic ?_;refine q8 (fun V=>Fq W1 V) (.rd 0 (.rd 1 (.rd 2 (.rd 3 (.rd 4 (.rd 5 (.op 6 (.rd 7 .done)))))))) kF kF kF (fun _ _ _ _ _ h=>h) FD ?_;iterate 6
    refine oP ?_ ?_ ?_;rotate_left
    .intro V hV;obtain⟨⟨t0,t1,t2,tz,tl⟩,i0,i1,i2,i3,i4,iz,il⟩:=HK.o V hV;go_simp;try with_reducible rfl
   refine rQ fun K hK=>?_
   (with_reducible refine (iA.o _ (E1.o.trans FD nI)).mono ?_)
   rintro _ _ ⟨rfl,rfl⟩;refine hK _ _ FD ?_;clear hK K;refine oR ?_
   refine o5 ?_;refine NoPanic.normal ?_;try simp only[Act.put,sI,sZ,sS]
   go_upto_region 6 with fail
   refine wp_region_noPanic ?_;refine q8 (fun V=>Fq W1 V) (.rd 0 (.rd 1 (.rd 2 (.rd 3 (.rd 4 (.rd 5 (.rd 6 (.rd 7 (.op 8 (.op 9 (.rd 10 .done))))))))))) kF kF kF (fun _ _ _ _ _ h=>h) FD.drew ?_;iterate 8
    refine oP ?_ ?_ ?_;rotate_left
    .intro V hV;obtain⟨⟨t0,t1,t2,tz,tl⟩,i0,i1,i2,i3,i4,iz,il⟩:=HK.o V hV;go_simp;try with_reducible rfl
   refine rQ fun K hK=>?_
   (with_reducible refine (iA.o _ (E1.o.trans FD.drew nI)).mono ?_)
   rintro _ _ ⟨rfl,rfl⟩;refine hK _ _ FD.drew ?_;clear hK K;refine rQ fun K hK=>?_
   (with_reducible refine (HMs.o _).mono ?_)
   rintro _ V5 ⟨va,vc,rfl,fH,F5⟩;have G5:=FD.drew.trans F5 nI;refine hK _ _ G5 ?_;clear hK K;refine oR ?_
   refine o5 ?_;refine NoPanic.normal ?_;try simp only[Act.put,sI,sZ,sS]
   rw[Qc] at fH ⊢;have VH:∀ m,m<q->((fk p q q).map (Value.int .i64))[m]?=some (iI ((i+m:Nat):Int)):=fun m hm=>by
    rw[gP,fk,gP,List.getElem?_range hm,<- HS.2.1];rfl
   obtain⟨g5,rfl,mQ,o0⟩:=d8 fH (VH 0 pS);have HO:=hid (fun (m:Nat) (hm:m<q) (V:w9) (F:Fq V5 V)=>show V.cell? (aA g5 m)=some (iI ((i+m:Nat):Int))/\g5<V.heap.size by
    obtain⟨g',e',I1,o⟩:=d8 (oN fH F) (VH m hm);cases e';exact⟨o,I1⟩)
   have fT:=hid (E1.trans G5 nI);have hqz:((q:Int) == 0)=false:=by simp;omega
   have hqi0:(0:Int)<(q:Int):=oM
   have ay:=HS.1;have hiq:i+q<=n:=by rcases ay with h|h <;> omega
   clear fH VH FD F5 G5 ay;go_wp2_with fail
   go_loopw [49] (fun mv wr2=>∃ m:Nat,m<=q/\mv = iI m/\Fq V5 wr2) fun mv _=>q-(intOf mv).toNat
   case atStart=>exact⟨0,C3 _,rfl,fR⟩
   case round =>
    obtain⟨wq,rfl⟩:∃ W:World,W=wr:=⟨_,rfl⟩
    obtain⟨m,hm,rfl,Cc⟩:=hrel;by_cases T7:m<q
    .have fd:(m:Int)<(q:Int):=oM;obtain⟨o,hgo⟩:=HO.o m T7 wq Cc;obtain⟨z',Y9,-⟩:=kQ.o (i+m) oM;have VN:=SD.o _ _ Y9;rw[HS.2.2.1 (i+m) oM oM] at VN;have jE:r=z'.s.2.2.1:=Option.some.inj VN;obtain⟨gb',e',c0,c1,-,-,-,fJ⟩:=HC.o (i+m) z' Y9 _ (fT.trans Cc nI);cases e';obtain⟨gb',e',k0,k1,-⟩:=HC.o i z HS.2.2.2.1 _ (fT.trans Cc nI);cases e';rw[<- jE] at c0 c1;rw[HS.2.2.2.2] at k0 k1;simp only at k0 k1;obtain⟨im,him⟩:=eX (i+m)
     rw[him] at o c0 c1;have himi:(im:Int)<(n:Int):=oM;have hNe:∀ W,(binOp .neq 35 (.agg #[iI r.1,iI r.2]) (.agg #[iI r.1,iI r.2])).run prog W = .ok (bO false) W:=fun W=>by rw[yx0];simp
     have RW:=hid Cc;clear Y9 VN jE him Cc;go_wp2_with fail
     go_quiet (fail)
     go_wp2_with fail
     go_roundw;case rel=>exact⟨m+1,T7,by go_num,RW.trans (fR.drewN _) nI⟩
     case measure=>exact wM
    .obtain rfl:m=q:=by omega
     have fd:¬ (m:Int)<(m:Int):=oM;have RW:=hid (fT.trans Cc nI);have HNx:=hid HS.1;clear Cc;go_wp2_with fail
     go_roundw;case rel=>exact⟨i+m,by go_num,HNx.o,RW.o⟩
     case measure=>exact wM
structure Opn (y:Cs)(P:D4)(x:P1)(t:Tr)(E0:List Rf)(L:List Bp):Prop where
 oy:∃ gen c,YP y gen c
 dir:dH y x E0 (t.slots x.depth)
 bk:∀ q ∈ L,bh q.1/\y.cont q.1.1=some (q.1.2.toNat,q.2)
 perm:L.Perm (aj t 0 0)
 nd:(B2 x.rp E0++X6 L).Nodup
 lt:∀ k ∈ B2 x.rp E0++X6 L,k<108
 cu:∀ k:Nat,P (12+k)≠none->k ∈ B2 x.rp E0++X6 L
 high:t.high=x.depth
 ok:ee t 0 0
 per:x.per=6/\x.most=3
section
variable {y:Cs}{P:D4}{x:P1}{t:Tr}{E0:List Rf}{L:List Bp}{w':w9}{B:P0}{bx bd N:Nat}
def Opn.len (h:Opn y P x t E0 L):L.length<=8/\E0.length<=2/\x.depth<=3:=by
 have h1:=MC (t:=t) (by rw[h.high];have:=h.dir.z.most.1;have:=h.per.2;omega);have h2:=LQ h.per h.dir.z.most.1;exact⟨by rw[h.perm.length_eq,ER];exact h1,by rw[h.dir.D7];exact h2.1,by have:=h.dir.z.most.1;have:=h.per.2;omega⟩
def Opn.mid (h:Opn y P x t E0 L)(hS:C1 w' B y ⟨P,true⟩ false N)(hI:dG w' bx B.s bd 3 3 0)(hD:N2 w' bd B.s x)(hb:B.base<=bd/\B.base<=bx):bR w' B bx bd y ⟨P,true⟩ false N x t 0:=by
 obtain⟨gen,c,ho⟩:=h.oy;exact⟨⟨E0,L,⟨hS,hI,hD,h.dir,⟨h.nd,fun e=>by cases e⟩,h.bk,by have:=h.len;omega,ho.plan,ho.pages,ho.room,ho.places,h.per,hb⟩,h.perm⟩,h.high,h.ok⟩
def Opn.rows (h:Opn y P x t E0 L):∀ r ∈ ((x.rp,x.rs) :: E0)++t.slots x.depth,0<=r.1/\r.1<108:=fun r hr=>by
 have hk:0<=r.1/\r.1.toNat ∈ B2 x.rp E0++X6 L:=by
  rcases X5.1 hr with h1|h1
  .refine⟨?_,pY _ (show r.1.toNat ∈ List.map (fun r:Rf=>r.1.toNat) ((x.rp,x.rs) :: E0) from N4.2 ⟨r,h1,rfl⟩)⟩;rcases d9.1 h1 with rfl|h1
   .exact h.dir.rr.1
   .exact (h.dir.leaf.tr r h1).1
  .obtain⟨q,hq,rfl⟩:=(mS0 (N6 h.high) h.perm r).1 h1;exact⟨(h.bk q hq).1.1,lK _ (N4.2 ⟨q,hq,rfl⟩)⟩
 have:=h.lt _ hk.2;omega
def Opn.done (h:Opn y P x t E0 L)(hS:C1 w' B { y with taken:=fo (((x.rp,x.rs) :: E0)++t.slots x.depth) } ⟨P,true⟩ false N)(hI:dG w' bx B.s bd 3 3 0)(hD:N2 w' bd B.s x)(hb:B.base<=bd/\B.base<=bx) :
  bR w' B bx bd { y with taken:=fo (((x.rp,x.rs) :: E0)++t.slots x.depth) } P false N x t 0:=by
 obtain⟨gen,c,ho⟩:=h.oy;have Dc:=h.len;have Z3:=Ay0 (rp:=x.rp) (rs:=x.rs) (E0:=E0) (N6 h.high) h.perm fun r hr=>(h.rows r hr).1;have o7:∀ k,y.fresh k=false:=fun k=>by rw[ho.fresh]
 have vk:∀ k,y.dying k=false:=fun k=>by rw[ho.dying]
 have vi:∀ k,y.dead k=false:=fun k=>by rw[ho.dead]
 have lH:Live { y with taken:=fo (((x.rp,x.rs) :: E0)++t.slots x.depth) } (B2 x.rp E0++X6 L) 11:=by
  refine⟨h.nd,fun k hk=>by show k<y.pages;rw[ho.pages];exact h.lt k hk,fun k hk=>⟨(Z3 k).2 hk,vk k,vi k⟩,fun k _ hk=>.inl ((Z3 k).1 hk),⟨[],fun k hk=>?_,?_⟩,⟨[],fun k hk=>?_,by simp⟩⟩
  .have A5:y.dying k=true:=hk;rw[vk] at A5;cases A5
  .have:=mY (fun k:Nat=>!({ y with taken:=fo (((x.rp,x.rs) :: E0)++t.slots x.depth) }:Cs).fresh k) (B2 x.rp E0++X6 L);simp only[B2,X6,lA,lC,Z8,cJ] at this ⊢;omega
  .have A5:y.dead k=true:=hk;rw[vi] at A5;cases A5
 refine⟨⟨E0,L,⟨hS.shut fun k hk hne=>?_,hI,hD,h.dir.keeps rfl rfl fun _ _=>rfl,lH.r _,h.bk,oM,ho.plan,ho.pages,ho.room,ho.places,h.per,hb⟩,h.perm⟩,h.high,h.ok⟩;have bX:P (y.first+k)≠none:=hne;rw[ho.first] at bX;exact⟨(Z3 k).2 (h.cu k bX),o7 k⟩
end
def OpU (B:P0)(y:Cs)(P:D4)(N:Nat)(x:P1)(t:Tr)(w:w9)(e:Ending)(w':w9):Prop:=
 ∃ (bx bd:Nat) (y':Cs),e = rT (tU #[O7 bx,iI 0])/\D0 B w w'/\(w<=bx/\w<=bd)/\bR w' B bx bd y' P false N x t 0/\(y'.gen=y.gen/\y'.first=y.first)/\y'.dying=y.dying/\y'.dead=y.dead
def sG0 {w':w9}{o:Obj}{row:Option Nat}(h:(w.alloc o).grownBy w' row):Fr (fun b=>some b=row) w w':=
 (fR.alloc _).trans (S':=fun b=>some b=row) ⟨h.os,h.tape,h.output,h.size,fun b hb hn=>h.block b hb hn⟩ fun b hb h=>h
def xi0 {B:P0}{y:Cs}{P:D4}{N:Nat}{E0:List Rf}{L:List Bp}(hS:C1 w B y ⟨P,true⟩ false N)(h:Opn y P x t E0 L)(hb:B.base<=w.heap.size)(hN:N+30<=90000) :
  cP 78 #[B.ptr,iI x.depth,cV x.rp x.rs] w (OpU B y P (N+13) x t w):=by
 have Dc:=h.len;obtain⟨gen,c,ho⟩:=h.oy;have O3:eS y.plan=true:=by rw[ho.plan];exact Ey
 have h0:0<w.heap.size:=by have:=hS.base;omega
 obtain⟨g,hg⟩:=eX x.depth
 have hx:({ yS y.plan with depth:=x.depth,rp:=x.rp,rs:=x.rs }:P1)=x:=by
  have hz:=h.per;rw[ho.plan,Zo];obtain⟨p1,p2,p3,p4,p5⟩:=x;obtain⟨rfl,rfl⟩:=hz;rfl
 have HOp:=hid (fun V (F:Fq w V)=>by
  have:=oz0 (hS.J0 F) O3 x.depth x.rp x.rs (by rw[ho.plan];show (x.depth:Int)<=3;omega);rw[hx,hg] at this;exact this)
 have GW:=hid fun V (F:Fq w V)=>yk0 (hS.J0 F) O3;obtain⟨w1,I0⟩:=eX (w.alloc (.cells #[iI x.rp,iI x.rs] 35))
 have F1:=fA I0
 obtain⟨x0,x1,xz,xl⟩:=cells2 (show w1.heap[w.heap.size]?=some (.cells #[iI x.rp,iI x.rs] 35) by rw[<- I0];exact han _ _);have R6:=hid I0;have E1:=hid F1;have HH:=hi2 h (aI hS (aI hb (aI hN (aI h0 Dc))));have ei:=hid ho.plan;have HG:=hid hg;rw[hg];clear I0 F1 h hS hb hN ho O3 hx Dc hg;go_enter func78,ntmps78;go_upto_region 1 with fail
 rw[R6];go_wp2_with fail
 refine (HOp _ E1.o).mono ?_;rintro e w2 ⟨bd,rfl,hD,cE,F2⟩;have uE:=hi2 hD (aI cE (E1.trans F2 nI));clear hD cE F2 x0 x1 xz xl;go_wp2_with fail
 refine (GW _ uE.2.2).mono ?_;rintro e w3 ⟨bx,rfl,U3,th,F3⟩;rw[ei,yz0] at U3;have gJ:=uE.2.2.trans F3 nI;have zm:N2 w3 bd B.s x:=F3.heap uE.1 id;obtain⟨i0,i1,i2,i3,i4,iz,il⟩:=cells5 U3;have hne:bd≠bx:=fun e=>by unfold N2 at zm;rw[e,U3] at zm;cases zm
 obtain⟨w4,eE⟩:=eX (w3.setCell (aA bx 1) (A7 bd))
 have F4:Fr (fun k=>k=bx) w3 w4:=by rw[<- eE];exact (Fr.refl (fun k=>k=bx) w3).setCell (a:=⟨bx,1,none⟩) (fun _=>rfl) _
 have hI4:dG w4 bx B.s bd 3 3 0:=by rw[<- eE];exact hsc _ _ _ _ U3
 have TX:N2 w4 bd B.s x:=F4.heap zm hne;have ly:w<=bx/\w<=bd:=⟨nT uE.2.2.size th,nT E1.size uE.2.1⟩;have qp:Fq w w4:=gJ.trans F4 fun b P4 e=>oM;have vf:=HH.2.1.J0 qp;have EZ:=HH.1.mid vf hI4 TX ⟨by have:=HH.2.2.1;omega,by have:=HH.2.2.1;omega⟩;have nw:=hid (pf0 vf TX HH.1.dir (by have:=HH.2.2.2.1;omega));have H4:=hi2 qp (aI EZ ly);have NA:=hid eE;clear gJ zm eE F4 hI4 TX ly qp vf EZ U3 th F3;go_upto_region 6 with fail
 rw[NA];clear i0 i1 i2 i3 i4 iz il;go_wp2_with fail
 refine nw.mono ?_;rintro e w5 ⟨v5,err,rfl,F5,⟨rfl,ho5,J5⟩|⟨_,ha,_⟩⟩;rotate_left
 .cases ha
 obtain⟨Y7,L',hMx,hPx⟩:=H4.2.1.ex;have Jl:bR w5 B bx bd y ⟨P,true⟩ false (N+1) x t 0:=⟨⟨Y7,L',hMx.T1 F5 J5,hPx⟩,H4.2.1.high,H4.2.1.ok⟩;have kS:=hid (mH0 Jl (by have:=HH.2.2.2.1;omega));have H5:=hi2 F5 ho5;clear hMx hPx Jl F5 ho5 J5 nw;go_wp2_with fail
 refine kS.mono ?_;rintro e w6 ⟨v6,zs,rfl,F6,VE,Dh,-,hT6⟩;obtain⟨tops6,L6,Pa,-⟩:=hT6.ex;rw[HG] at Dh;have Q3:g<=3:=by have:=HH.2.2.2.2.2;have:=HG.o;omega
 have Vc:t.high<=g:=by rw[<- HG];exact N6 HH.1.high
 have HSh:=hid (rY0 Pa.idx Pa.dir HG.o Vc Q3 VE Dh);have H6:=hi2 (D0.trans H5.1 F6) (aI (BL H5.2 dC F6) (aI VE (aI Dh Pa.st)));clear F6 VE Dh hT6 Pa kS;go_wp2_with fail
 refine HSh.mono ?_;rintro e w7 ⟨rfl,F7⟩;obtain⟨a6,c6,rfl,-,-,-,-⟩:=A2 H6.2.2.1;obtain⟨n,hn⟩:=eX zs.length
 have vG:=oN H6.2.2.1 F7;have h17:=D0.trans H6.1 (D0.none (B:=B) F7);have lq:=H6.2.2.2.2.J0 F7;have oh:∀ (i:Nat) (z:dm),zs[i]?=some z->(t.slots g)[i]?=some z.s.2.2.1:=fun i z hz=>by
  rw[<- EK t g 0 0,<- H6.2.2.2.1,xY,gP,hz];rfl
 have xR:n=2^g:=by
  have:=congrArg List.length H6.2.2.2.1;rw[Z8,hn,Il _ _ _ _ Vc] at this;exact this
 have Di:n<=8:=by rw[xR];exact nT (aZ dC Q3) dC
 have X3:(t.slots g).length=n:=by rw[Tr.uO t g Vc,xR]
 rw[hn] at vG ⊢;obtain⟨b4,cX⟩:=eX w4.heap.size
 obtain⟨b5,A6⟩:=eX w5.heap.size
 have PC:=oN H6.2.1 F7;rw[cX] at PC;rw[A6] at vG;obtain⟨l4,ja⟩:=eX ((x.rp,x.rs) :: E0)
 rw[ja] at PC;have GO:=hid ja;have H7:=hi2 PC (aI vG (aI h17 lq));have HZ:=hi2 hn (aI oh (aI X3 cX));obtain⟨j0,fK,cH,jz1,cI⟩:=info_parts eQ;have HJ:=hi2 fK (aI cH (aI jz1 cI));have h40:0<b4:=by rw[<- cX];exact E4 HH.2.2.2.2.1 H4.1.size
 have hl4n:l4.length<=3:=by have:=HH.2.2.2.2.2;rw[<- ja,lC];omega
 clear F7 PC vG h17 lq hn oh xR A6 ja fK cH jz1 cI HSh cX X3;go_wp2_with fail
 go_loopw [11,56] (fun v iv wr=>∃ k:Nat,k<=n/\iv = iI k/\aq wr b4 v (l4++(t.slots g).take k)/\wr.ownsRow b5 131 5 (sL a6 n c6) n (zs.flatMap cU)/\D0 B w4 wr/\C1 wr B y ⟨P,true⟩ false (N+1+12)) fun _ iv _=>n-(intOf iv).toNat
 case atStart=>exact⟨0,C3 _,rfl,by rw[List.take_zero,vL];exact H7.1,H7.2.1,H7.2.2.1,H7.2.2.2⟩
 case round =>
  obtain⟨k,hk,rfl,hO,zG,hF,zD⟩:=hrel;by_cases hlt:k<n
  .have hd:decide ((k:Int)<(n:Int))=true:=by simp;omega
   have cF:(k:Int)<(n:Int):=oM
   have fL:wrap64 ((k:Int)+1)=((k+1:Nat):Int):=rY oM;obtain⟨⟨⟨d,p,r,es⟩,va,vc⟩,hz⟩:∃ z,zs[k]?=some z:=⟨_,gE (by rw[HZ.1];exact hlt)⟩
   have hr:=HZ.2.1 k _ hz;simp only at hr;obtain⟨gb,rfl,bz,c0⟩:=d8 zG (jt (f:=cU) (s:=5) (fun _=>rfl) zs k 0 _ hz dC);obtain⟨g',e',-,c1⟩:=d8 zG (jt (f:=cU) (s:=5) (fun _=>rfl) zs k 1 _ hz dC);cases e';obtain⟨g',e',-,c2⟩:=d8 zG (jt (f:=cU) (s:=5) (fun _=>rfl) zs k 2 _ hz dC);cases e';obtain⟨g',e',-,c3⟩:=d8 zG (jt (f:=cU) (s:=5) (fun _=>rfl) zs k 3 _ hz dC);cases e';obtain⟨g',e',-,c4⟩:=d8 zG (jt (f:=cU) (s:=5) (fun _=>rfl) zs k 4 _ hz dC);cases e';obtain⟨n3,pN⟩:=eX es.length
   simp only[pN] at c0 c1 c2 c3 c4;rw[Nat.add_zero] at c0;obtain⟨b9,R7⟩:=eX wr.heap.size
   obtain⟨W1,M2⟩:=eX (wr.alloc (.cells #[iI r.1,iI r.2,iI d,iI p,sL va n3 vc] 131))
   have F1:=fA M2
   obtain⟨t0,t1,t2,t3,t4,tz,tl⟩:=cells5 (show W1.heap[b9]?=some (.cells #[iI r.1,iI r.2,iI d,iI p,sL va n3 vc] 131) by rw[<- M2,<- R7];exact han _ _);have R6:=hid M2;have qB:=hid R7;have N8:(l4++(t.slots g).take k).length<=11:=by rw[lA,lT];omega
   have cO:=hi2 (oN hO F1) (aI (oN zG F1) (aI (D0.trans hF (D0.none F1)) (zD.J0 F1)));have hb4w:b4<=W1:=by have:=HZ.2.2.2;have:=(D0.trans hF (D0.none F1)).size;omega
   have HR:=hi2 hr N8;clear hO zG hF zD hz hr M2 R7 F1 pN;go_upto_region 17 with fail
   rw[R6];try simp only[qB.o]
   clear c0 c1 c2 c3 c4 bz;go_wp2_with (at_builtin;refine wpList_append_own_at _ rfl (.tmp 60) (.tmp 63) 33 rfl b4 35 j0 _ 2 16 underlying33 HJ.1 HJ.2.1 HJ.2.2.1 HJ.2.2.2 rfl dC _ _ _ rfl (cO.1.alloc _) ⟨W1,0,none⟩ 1 1 [iI r.1,iI r.2] rfl rfl (World.news_of_block (cs:=#[iI r.1,iI r.2]) (t:=35) (fr:=(0,0)) (han _ _)) (by simp[Value.oneCell']) (by simp only[maxLen];omega) oM sO ?_)
   intro v8 W8 ij nX tF xi;have F8:=sG0 nX;have H8:=hi2 ij (aI (K3 cO.2.1 F8 fun g c hg e=>by obtain⟨-,c',hc⟩:=O6 cO.1 e;rw[hc] at hg;cases hg) (aI (Fr.trans cO.2.2.1 F8 fun b hb e=>by have:=(O6 cO.1 e).1;have:=HZ.2.2.2;omega) (cO.2.2.2.grown cO.1 dC h40 nX)));clear ij nX tF xi F8 t0 t1 t2 t3 t4 tz tl N8;go_wp2_with fail
   go_roundw;case rel =>
    refine⟨k+1,hlt,by go_num,?_,H8.2⟩;have e1:l4++(t.slots g).take (k+1)=(l4++(t.slots g).take k)++[r]:=(by rw[ea,HR.1];simp);show W8.ownsRow _ 35 2 _ _ _;rw[e1];have h8:=H8.1;simp only[dY,lA,lT,DN,dj,List.flatMap_nil,vL,dD] at h8 ⊢;exact h8
   case measure=>exact wM
  .obtain rfl:k=n:=by omega
   have hd:decide ((k:Int)<(k:Int))=false:=by simp
   rw[tL (N6 HZ.2.2.1),<- GO.o] at hO;obtain⟨gen,c,ho⟩:=HH.1.oy;have hy:({ y with taken:=fo [] }:Cs)=y:=by
    have e:=ho.taken;obtain⟨y1,y2,y3,y4,y5,y6,y7,y8,y9,y10,QV,QW,y13,y14⟩:=y;simp only at e;subst e;rfl
   rw[<- hy] at zD;have Ds:=HH.1.rows;rw[HG] at Ds;have Dc:=HH.2.2.2.2.2;have yH:=hid (xj0 zD hO (by rw[lA,HZ.2.2.1,lC];omega) (fun r hr=>by have h1:=Ds r hr;have h2:y.pages=108:=ho.pages;exact⟨h1.1,by rw[h2];exact h1.2⟩) (wB0 (L:=L) (by rw[<- HG];exact N6 HH.1.high) HH.1.perm HH.1.nd));have HF:=hid hF;clear hO zG hF zD hy ho Ds;go_wp2_with fail
   refine yH.mono ?_;rintro _ W9 ⟨rfl,F9,Jk⟩;have H9:=hi2 (D0.trans HF.o F9) Jk;clear F9 Jk;go_wp2_with fail
   go_ret2;obtain⟨tops4,L5,EZ,-⟩:=H4.2.1.ex;have Jk:=H9.2;rw[<- HG] at Jk;exact⟨bx,bd,_,rfl,D0.trans (D0.none H4.1) H9.1,H4.2.2,HH.1.done Jk (wO EZ.idx H9.1) (EZ.dir.T1 H9.1) EZ.base,⟨rfl,rfl⟩,rfl,rfl⟩
def SOp (w0:w9)(base bs bv:Nat)(N gen:Nat)(rp rs:Int)(tw:Tr)(V:w9):Prop:=
 ∃ (B:P0) (y:Cs) (P:D4) (x:P1) (t:Tr) (E0:List Rf) (L:List Bp),(C1 V B y ⟨P,true⟩ false N/\Opn y P x t E0 L/\Gm P x t)/\bare t=tw/\(x.rp=rp/\x.rs=rs)/\(B.base=base/\B.s=bs/\B.d=bv)/\Fq w0 V/\base=w0.heap.size/\(y.gen=gen+1/\y.first=12)
section
variable {w0 V V':w9}{base bs bv bx N G gen:Nat}{P:D4}{t tw:Tr}{sp rp rs:Int}
def wx0 (h:SOp w0 base bs bv N gen rp rs tw V)(hN:N+30<=90000) :
  cP 78 #[pO bs,iI tw.high,cV rp rs] V (fun e w'=>∃ (bx':Nat) (P':D4),e = rT (tU #[O7 bx',iI 0])/\D1 base V w'/\oU (fun y=>y.dying=(fun _=>false)/\y.dead=fun _=>false) w0 base bs bv bx' P' false (N+13) (gen+1) tw 0 w'/\MP P' rp rs tw):=by
 obtain⟨B,y,P,x,t,E0,L,⟨hS,hO,hC⟩,rfl,⟨rfl,rfl⟩,⟨hB,rfl,rfl⟩,hF,hb,hg⟩:=h;have J6:=hF.size;rw[qM,hO.high];refine (xi0 hS hO oM hN).mono ?_;rintro e w' ⟨bx',bd,y',rfl,F,⟨hx1,ce⟩,hT,I1,hz⟩;obtain⟨_,_,ho⟩:=hO.oy;have FI:D1 base V w':=by rw[<- hB];exact uR F
 exact⟨bx',P,rfl,FI,⟨B,bd,y',x,t,hT,rfl,⟨hB,rfl,rfl⟩,FI.J0 (N6 hb.symm) hF,⟨hb,oM,oM⟩,⟨I1.1.trans hg.1,I1.2.trans hg.2⟩,hz.1.trans ho.dying,hz.2.trans ho.dead⟩,x,t,hC,rfl,rfl,rfl⟩
end
end
section
open Go.RowKit Go.Sg
variable {w:w9}{b base bf bq c cap ck d n off:Nat}{v:Value}{bs:List Int}{a:Option Addr}
def wa0 {e size:Nat}{xs:List Value}(h:w.ownsRow b e size v n xs)(hne:v≠sL none 0 0):∃ g cap cur,v = sL (aP g 0) n cap/\b<=g/\w.heap[g]?=some (.cells cur e):=by
 obtain⟨hl,⟨h0,_⟩|⟨g,cap,cur,hv,hb,hg,r⟩⟩:=h
 .exact absurd h0 hne
 .exact⟨g,cap,cur,hv,hb,hg⟩
def Aj0 (n:Nat)(bs:List Int)(w:w9)(e:Ending)(w':w9):Prop:=
 ∃ g cap,e = rT (sL (aP g 0) n cap)/\w'.ownsRow w 5 1 (sL (aP g 0) n cap) n (bs.map (Value.int .u8))/\Fq w w'
def sj0 {ad:Addr}(h:jm w (some ad) n bs)(hn:n<=65536) :
  cP 83 #[sL (some ad) n cap] w (Aj0 n bs w):=by
 obtain⟨i0,A3,J1,M1,O1⟩:=info_parts B3;have hlen:=h.len;have hcell:∀ (o:Obj) (j:Nat) (u:Value),(bs.map (Value.int .u8))[j]?=some u->(w.alloc o).cell? (ad.add j)=some u:=fun o j u hu=>by
  rw[gP] at hu;cases hx:bs[j]? with
  | none=>rw[hx] at hu;cases hu
  | some x =>
   rw[hx] at hu;cases hu;obtain⟨b',off',e,hb,hc⟩:=h.at_ j x hx;cases e;rw[addr_add];exact (((Fr.refl (fun _=>False) w).alloc o).cell (p:=⟨b',off'+j,none⟩) hb id).trans hc
 have HC:=hid hcell;clear h hcell;have q22:∀ (w:w9) (a:Option Addr) (n c n' c':Nat),(binOp .eql 22 (sL a n c) (sL none n' c')).run prog w = .ok (bO a.isNone) w:=fun w a n c n' c'=>Lib.run_eql_slice_nil w _ _ a n c n' c' underlying22
 go_enter func83,ntmps83;go_wp2_with (at_builtin;refine wpList_append_own_at _ rfl (.tmp 5) (.tmp 6) 22 rfl w.heap.size 5 i0 _ 1 1 underlying22 A3 J1 M1 O1 rfl dC _ _ _ rfl (IA _ _ (nR _) _ _ _ (by simp[go_sem])) ad n cap (bs.map (Value.int .u8)) rfl (by simpa using hlen) ?c1 ?c2 ?c3 ?c4 sP ?_)
 case c1=>exact HC _
 case c2=>intro u hu;obtain⟨x,_,rfl⟩:=N4.1 hu;rfl
 case c3=>simp[maxLen];omega
 case c4=>omega
 intro v1 w1 A0 R0 Y4 G4;try simp only[C7,o8] at A0
 have F1:Fq w w1:=((Fr.refl (fun _=>False) w).alloc _).trans (S':=fun b=>b=w.heap.size) (Fr.of_grownBy R0) fun b hb h=>oM;obtain⟨g,cap',cur,rfl,bz,dK⟩:=wa0 A0 fun e=>Y4 e;have HG:=hi2 A0 F1;clear A0 R0 G4 F1 dK bz Y4;go_wp2
 go_ret;exact⟨g,cap',rfl,HG.1,HG.2⟩
def DO0 (base d bf bq:Nat)(D:Dev)(w:w9)(e:Ending)(w':w9):Prop:=
 ∃ n:Nat,n<=9223372036854775807/\e = rT (tU #[])/\Q4 w' base d bf bq { D with armed:=n }/\Fr (fun b=>b=d) w w'
variable {D:Dev}
def _root_.Go.Sg.Q4.yp0 {w':w9}{D':Dev}(h:Q4 w base d bf bq D)(F:Fr (fun b=>b=d) w w')(e1:D'.C0=D.C0)(e2:D'.size=D.size)(e3:D'.fast=D.fast)(e4:D'.acts=D.acts){lv:Value}(hd:w'.heap[d]?=some (.cells (uw D' bf bq lv) 151))(hl:Qa w' base lv D'.loose):Q4 w' base d bf bq D':=by
 obtain⟨lv0,kA,_⟩:=h.dc;have n5:∀ g c t,t≠151->w.heap[g]?=some (.cells c t)->¬ g=d:=fun g c t h2 hg e=>by rw[e,kA] at hg;cases hg;exact h2 rfl
 have nm:∀ g l ck,w.heap[g]?=some (.map l ck)->¬ g=d:=fun g l ck hg e=>by rw[e,kA] at hg;cases hg
 obtain⟨l,ck,hf,U9,U8⟩:=h.fast;obtain⟨l',js,hq,ah,jg,fN⟩:=h.past;refine⟨⟨_,hd,hl⟩,⟨l,ck,F.heap hf (nm _ _ _ hf),U9,fun k=>?_⟩,⟨l',js,F.heap hq (nm _ _ _ hq),ah,fun e he=>?_,fN⟩,h.ge,h.ne,by rw[e1,e2];exact h.rg⟩
 .rw[e2,e3];exact (U8 k).fr F fun g c hg=>n5 g c 5 dC hg
 .rw[e4];exact kY.fr (jg e he) F (fun g c hg=>n5 g c 22 dC hg) fun g c hg=>n5 g c 5 dC hg
def Bx0 (h:Q4 w base d bf bq D)(k:Int)(hk:k<=9223372036854775807):cP 40 #[pO d,iI k] w (DO0 base d bf bq D w):=by
 obtain⟨lv,hd,hl⟩:=h.dc;have c5:=G0 hd 5;have z:=fun o=>X2 hd o
 have ld:=M0 hd;simp at c5;have H:=hi2 h (aI hd hl);obtain⟨n,hn⟩:∃ n:Nat,max k 0=(n:Int):=⟨(max k 0).toNat,oM⟩
 have pP:n<=9223372036854775807:=oM
 have HN:=hid hn;clear h hd hl;go_enter func40,ntmps40;go_wp2
 go_end0
 obtain⟨h,hd,hl⟩:=H.o;have F:Fr (fun b=>b=d) w (w.setCell (aA d 5) (iI (n:Int))):=(Fr.refl (fun b=>b=d) _).setCell (a:=⟨d,5,none⟩) (fun _=>rfl) _;refine⟨n,pP,rfl,h.yp0 F rfl rfl rfl rfl (lv:=lv) ?_ ?_,F⟩
 .rw[hsc _ _ _ _ hd];rfl
 .obtain⟨ws,A0,bZ,X7⟩:=hl;have n5:∀ g c t,t≠151->w.heap[g]?=some (.cells c t)->¬ g=d:=fun g c t h2 hg e=>by rw[e,hd] at hg;cases hg;exact h2 rfl
  exact⟨ws,K3 A0 F fun g c hg=>n5 g c 196 dC hg,bZ,fun i x y hx hy=>⟨(X7 i x y hx hy).1,(X7 i x y hx hy).2.1.fr F fun g c hg=>n5 g c 5 dC hg,(X7 i x y hx hy).2.2⟩⟩
variable {l:List Z4}
def _root_.Go.Sg.Q4.vM0 (h:Q4 w base d bf bq D)(hl:w.heap[bf]?=some (.map (ents l) ck))(hn:(keys l).Nodup)(hf:∀ j,uW w D.size (Sg.look l j) (D.fast j))(at_:Int)(hb:T0 w (some ⟨b,off,none⟩) D.size cap bs)(hc:D.size<=cap) :
  Q4 (w.putObj bf (.map (ents (Sg.put l at_ (sL (aP b off) D.size cap) ck)) (bump l at_ ck))) base d bf bq { D with fast:=ux D.fast at_ bs }:=by
 obtain⟨W,hW⟩:=eX (w.putObj bf (.map (ents (Sg.put l at_ (sL (aP b off) D.size cap) ck)) (bump l at_ ck)))
 have F:Fr (fun b=>b=bf) w W:=by rw[<- hW];exact (Fr.refl (fun b=>b=bf) _).putObj (fun _=>rfl) _
 have hWl:W.heap[bf]?=some (.map (ents (Sg.put l at_ (sL (aP b off) D.size cap) ck)) (bump l at_ ck)):=by rw[<- hW];exact wK _ _ _ (M0 hl)
 rw[hW];have nc:∀ g c t,w.heap[g]?=some (.cells c t)->¬ g=bf:=fun g c t hg e=>by rw[e,hl] at hg;cases hg
 obtain⟨lv,hd,ws,A0,bZ,X7⟩:=h.dc;obtain⟨l',js,hq,ah,jg,fN⟩:=h.past;refine⟨⟨lv,F.heap hd (nc _ _ _ hd),ws,K3 A0 F fun g c hg=>nc _ _ _ hg,bZ,fun i x y hx hy=>⟨(X7 i x y hx hy).1,(X7 i x y hx hy).2.1.fr F fun g c hg=>nc _ _ _ hg,(X7 i x y hx hy).2.2⟩⟩,⟨_,_,hWl,ED hn _ _ _,fun j=>?_⟩,⟨l',js,F.heap hq fun e=>h.ne e.symm,ah,fun e he=>kY.fr (jg e he) F (fun g c hg=>nc _ _ _ hg) fun g c hg=>nc _ _ _ hg,fN⟩,h.ge,h.ne,h.rg⟩;show uW W D.size (Sg.look (Sg.put l at_ _ ck) j) (ux D.fast at_ bs j);rw[IC,ux];by_cases hj:at_=j
 .subst hj;rw[if_pos rfl,if_pos rfl];exact⟨b,off,cap,rfl,hb.fr F fun g c hg=>nc _ _ _ hg,hc⟩
 .rw[if_neg hj,if_neg fun e=>hj e.symm];exact (hf j).fr F fun g c hg=>nc _ _ _ hg
structure QB (base d bf bq:Nat)(D:Dev)(w:w9)(k:Nat)(f:Int->Option (List Int))(wr:w9):Prop where
 dev:Q4 wr base d bf bq { D with fast:=f }
 keep:∀ j,(∀ y ∈ D.loose.take k,y.1≠j)->f j=D.fast j
 jY:((∀ y ∈ D.loose,∀ x ∈ y.2,0<=x/\x<256)/\∀ k bs,D.fast k=some bs->∀ x ∈ bs,0<=x/\x<256)->∀ k bs,f k=some bs->∀ x ∈ bs,0<=x/\x<256
 fr:Fr (fun b=>b=bf) w wr
def Zf (D:Dev)(f:Int->Option (List Int))(y:Int × List Int)(n:Nat):List Int:=y.2.take n++((f y.1).getD (List.replicate D.size 0)).drop n
def qm0 {wr w2:w9}{k:Nat}{f:Int->Option (List Int)}(h:QB base d bf bq D w k f wr){y:Int × List Int}(hk:D.loose[k]?=some y)(n:Nat)(F:Fq wr w2)
  (hl:w2.heap[bf]?=some (.map (ents l) ck)) (hn:(keys l).Nodup) (hf:∀ j,uW w2 D.size (Sg.look l j) (f j)) (hb:T0 w2 (some ⟨b,off,none⟩) D.size cap (Zf D f y n)) (hc:D.size<=cap) :
  QB base d bf bq D w (k+1) (ux f y.1 (Zf D f y n)) (w2.putObj bf (.map (ents (Sg.put l y.1 (sL (aP b off) D.size cap) ck)) (bump l y.1 ck))):=by
 have h2:Q4 w2 base d bf bq { D with fast:=f }:=h.dev.fr F id id id fun _ _ _ _ _ h=>h;refine⟨Q4.vM0 h2 hl hn hf y.1 hb hc,fun j hj=>?_,fun hB j bs Py=>?_,?_⟩
 .have et:D.loose.take (k+1)=D.loose.take k++[y]:=by rw[ea,hk];rfl
  rw[et] at hj;have h1:j≠y.1:=fun e=>hj y sP e.symm
  simp only[ux,if_neg h1];exact h.keep j fun z hz=>hj z (pY _ hz)
 .simp only[ux] at Py;split at Py
  .cases Py;intro x hx;rcases X5.1 hx with hx|hx
   .exact hB.1 y (gM hk) x (ov hx)
   .have C6:=xZ hx;cases UV:f y.1 with
    | none =>
     rw[UV] at C6;have:=Ad C6;omega
    | some v =>
     rw[UV] at C6;exact h.jY hB y.1 v UV x C6
  .exact h.jY hB j bs Py
 .exact (h.fr.trans F nE).putObj (fun _=>rfl) _
def uN0 {z:Int}{s:Nat}(hz:-9223372036854775808<=z/\z<9223372036854775808)(hs:s<=512):∃ nv:Nat,nv<=s/\(z.tmod ((s:Int)+1)+((s:Int)+1)).tmod ((s:Int)+1)=(nv:Int)/\wrap64 (z.tmod ((s:Int)+1)+((s:Int)+1))=z.tmod ((s:Int)+1)+((s:Int)+1):=by
 have h1:-((s:Int)+1)<z.tmod ((s:Int)+1)/\z.tmod ((s:Int)+1)<(s:Int)+1:=⟨Int.lt_tmod_of_pos _ oM,Int.tmod_lt_of_pos _ oM⟩;generalize z.tmod ((s:Int)+1)=t at *
 have h2:0<=(t+((s:Int)+1)).tmod ((s:Int)+1)/\(t+((s:Int)+1)).tmod ((s:Int)+1)<(s:Int)+1:=⟨Int.tmod_nonneg _ oM,Int.tmod_lt_of_pos _ oM⟩;refine⟨((t+((s:Int)+1)).tmod ((s:Int)+1)).toNat,oM,oM,?_⟩;simp only[wrap64];omega
def sfV (a:Option Addr)(n c m:Nat):Value:=sL (if c=m then a else a.map (·.add m)) (n-m) (c-m)
def yR0 (h:T0 w a n c bs):rx w (sL a n c) n (bs.map (Value.int .u8)):=by
 rcases h.at_ with⟨rfl,rfl,rfl⟩|⟨b,off,cs,rfl,_⟩
 .have:bs=[]:=vH h.Y6.len;subst this;exact⟨none,0,rfl,.inl ⟨rfl,rfl,rfl,rfl⟩⟩
 .exact⟨_,c,rfl,.inr ⟨_,rfl,xu0 h.slb⟩⟩
def yS0 (h:w.ownsRow b 5 1 v n (bs.map (Value.int .u8)))(hn:0<n):∃ g cap,v = sL (aP g 0) n cap/\T0 w (some ⟨g,0,none⟩) n cap bs/\n<=cap/\b<=g:=by
 have hl:=h.1;simp at hl;obtain⟨a,c,rfl,xG,hc,Y4,hsm⟩:=A2 h;cases a with
 | none=>have:=(Y4 rfl).1;omega
 | some ad =>
  obtain⟨g,rfl,hg⟩:=hsm _ rfl;obtain⟨bz,cur,UK⟩:b<=g/\∃ cur,w.heap[g]?=some (.cells cur 5):=by
   obtain⟨_,⟨h0,_⟩|⟨g',cap',cur',hv,hb,I1,_⟩⟩:=h
   .cases h0
   .cases hv;exact⟨hb,_,I1⟩
  refine⟨g,c,rfl,⟨⟨hl,fun i x hx=>?_⟩,.inr ⟨g,0,cur,rfl,UK⟩⟩,xG,bz⟩;obtain⟨g',e',_,h1⟩:=d8 h (j:=i) (u:=.int .u8 x) (by rw[gP,hx];rfl);cases e';exact⟨g,0,rfl,hg,by rw[o8];exact h1⟩
def vR0 {m:Nat}(h:T0 w a n c bs):((bs.drop m).map (Value.int .u8)).length=(n-m)*1:=by
 rw[Z8,ed,h.len,Nat.mul_one]
def Cy0 (l:List Int):∀ u ∈ l.map (Value.int .u8),u.oneCell'=true:=by
 intro u hu;obtain⟨q,_,rfl⟩:=N4.1 hu;rfl
def Ag0 (base d bf bq:Nat)(D:Dev)(w:w9)(e:Ending)(w':w9):Prop:=
 e = rT (tU #[])/\∃ D',Q4 w' base d bf bq D'/\rP0 D D'/\Fr (fun b=>b=d\/b=bf) w w'
def vV0 (h:Q4 w base d bf bq D)(hlen:∀ y ∈ D.loose,y.2.length=D.size)(B5:D.loose.length<=100000){fa:Option Addr}{fn fc:Nat}{fl:List Int}(U8:eO w fa fn fc fl)(U9:fn<=100000)(o7:∀ z ∈ fl,-9223372036854775808<=z/\z<9223372036854775808)(JR:∀ b off,fa=some ⟨b,off,none⟩->fl≠[]->b≠bf) :
  cP 42 #[pO d,sL fa fn fc] w (Ag0 base d bf bq D w):=by
 obtain⟨i0,A3,J1,M1,O1⟩:=info_parts B3;obtain⟨lv,hd,ws,A0,bZ,X7⟩:=h.dc;have hz:=h.rg.2;obtain⟨n,hn⟩:=eX ws.length
 have lH:∃ a c,lv = sL a ws.length c:=by
  obtain⟨_,⟨h1,h2⟩|⟨g,cap,cur,h1,_⟩⟩:=A0
  .rw[h2];exact⟨_,_,h1⟩
  .exact⟨_,_,h1⟩
 obtain⟨va,vc,rfl⟩:=lH;obtain⟨l0,If,qY,-,-⟩:=h.fast;have c1:=G0 hd 1;have c3:=G0 hd 3;simp at c1 c3;have ld:=M0 hd;rw[hn] at c3;have pP:n<=100000:=oM
 have HO:=hi2 A0 (aI bZ X7);have H0:=hid (show QB base d bf bq D w 0 D.fast w from⟨h,fun _ _=>rfl,fun hB=>hB.2,fR⟩);have HD:=hi2 h hd;have HN:=hid hn;have HS:=hid U8;have HFB:=hid JR;have HFR:=hid o7;have HL:=hid hlen;have yF:=hid qY;clear h hd A0 bZ X7 hn U8 JR o7 hlen qY;go_enter func42,ntmps42;go_wp2_with fail
 go_loopw [20] (fun i wr=>∃ (k:Nat) (f:Int->Option (List Int)),k<=n/\i = iI k/\QB base d bf bq D w k f wr) fun i _=>n-(intOf i).toNat
 case atStart=>exact⟨0,D.fast,C3 _,rfl,H0.o⟩
 case round =>
  obtain⟨k,f,hk,rfl,hc⟩:=hrel;have nc:∀ g c t,w.heap[g]?=some (.cells c t)->¬ g=bf:=fun g c t hg e=>by rw[e,yF] at hg;cases hg
  by_cases hlt:k<n
  .have hdk:decide ((k:Int)<(n:Int))=true:=by simp;omega
   have cF:(k:Int)<(n:Int):=oM
   obtain⟨x,hx⟩:∃ x,ws[k]?=some x:=⟨_,gE (by rw[HN.o];exact hlt)⟩
   obtain⟨⟨ya,yb⟩,hy⟩:∃ y,D.loose[k]?=some y:=⟨_,gE (by rw[<- HO.2.1,HN.o];exact hlt)⟩
   obtain⟨hxa,dR,Fy⟩:=HO.2.2 k x (ya,yb) hx hy;have zS:=K3 HO.1 hc.fr fun g c hg=>nc g c _ hg;obtain⟨g,rfl,hg,u0,u1⟩:=Ze zS hx;have kJ:yb.length=D.size:=HL.o _ (gM hy);have dS:x.ll=D.size:=by rw[<- dR.len];exact kJ
   simp only at hxa;rw[hxa] at u0;rw[dS] at u1 dR Fy;obtain⟨W,hW⟩:=eX (wr.alloc (.cells #[iI ya,sL x.la D.size x.lc] 196))
   have bW:=fB hW
   have FW:=fA hW
   have HX:=hid fun V (F:Fq W V)=>cells2 (F.heap bW id);have HC:=hi2 hc (aI hy FW);have JM:W.heap[d]?=some (.cells (uw { D with fast:=f } bf bq (sL (aP g 0) ws.length vc)) 151):=by
    refine FW.heap (hc.fr.heap HD.2 (nc _ _ _ HD.2)) id
   have HDV:=hid (fun V (F:Fq W V)=>show V.cell? (aA d 2)=some (.map (some bf))/\d<V.heap.size by
    have:=F.heap JM id;exact⟨by simpa using G0 this 2,M0 this⟩)
   have tW:T0 W x.la D.size x.lc yb:=(dR.fr hc.fr fun g c hg=>nc g c _ hg).fr FW fun _ _ _ h=>h;have SX:=hi2 tW Fy;have HW:=hid hW;have hyz:D.size<=512:=hz.2;clear hx hxa dR Fy zS kJ dS hW bW FW hc JM tW hy;go_upto_region 6 with fail
   rw[HW];clear u0 u1;go_upto_if 28 with fail
   go_cut [7] from 28 to 38 (fun v wx=>wx=W/\∃ nv:Nat,nv<=D.size/\v = iI nv)
   case first =>
    by_cases hfk:k<fn
    .have hdf:decide ((k:Int)<(fn:Int))=true:=sO;have hfi:(k:Int)<(fn:Int):=oM;obtain⟨z,Y9⟩:∃ z,fl[k]?=some z:=⟨_,gE (by rw[HS.len];exact hfk)⟩
     obtain⟨b,off,rfl,hb,hcz⟩:=(HS.fr (HC.1.fr.trans HC.2.2 fun b _ h=>h.elim) fun b off e _ hne=>HFB b off e hne).at_ k z Y9;obtain⟨nv,Fp,ax,ey⟩:=uN0 (HFR z (gM Y9)) hyz;have HNV:=hid Fp;clear Y9;go_wp2_with fail
     go_meet
     exact⟨rfl,nv,HNV.o,rfl⟩
    .have hdf:decide ((k:Int)<(fn:Int))=false:=sO;go_wp2_with fail
     go_meet
     exact⟨rfl,0,C3 _,rfl⟩
   case rest =>
    obtain⟨hwc,nv,Fp,rfl⟩:=hcut;subst hwc;have TY:Q4 wc base d bf bq { D with fast:=f }:=HC.1.dev.fr HC.2.2 id id id fun _ _ _ _ _ h=>h;obtain⟨l,ck,hl,xu,nV⟩:=TY.fast;obtain⟨ad,had⟩:∃ ad,x.la=some ad:=by
     rcases SX.1.at_ with⟨_,h0,_⟩|⟨b,off,cs,h1,_⟩
     .omega
     .exact⟨_,h1⟩
    have dR:=SX.1;rw[had] at dR;have oK:=hid (fun V (F:Fq wc V)=>sj0 (cap:=x.lc) ((dR.fr F fun _ _ _ h=>h).take Fp).Y6 (show nv<=65536 by omega));have Sf:=hid fun V (F:Fq wc V)=>pz0 (TY.fr F id id id fun _ _ _ _ _ h=>h) ya;have oL:=hid (fun V (F:Fq wc V)=>show (V.cell? wr=some (iI ya)/\V.cell? (aA wr 1)=some (sL (some ad) D.size x.lc))/\V.cell? (aA d 2)=some (.map (some bf))/\(V.heap[bf]?=some (.map (ents l) ck)/\wr.heap.size<V.heap.size/\d<V) by
     obtain⟨t0,t1,tz,tl⟩:=HX.o V F;obtain⟨t2,MA⟩:=HDV.o V F;rw[had] at t1;exact⟨⟨t0,t1⟩,t2,F.heap hl id,tl,MA⟩)
    have Ev:=hid fun (V:w9) (hV:V.heap[bf]?=some (.map (ents l) ck)) (v:Value)=>Bv (P:=prog) (T:=147) underlying147 underlying3 hV ya v;have hst:∀ W,(Instr.slice 22 (sL (some ad) D.size x.lc) none (some (iI nv)) none).run prog W = .ok (sL (some ad) nv x.lc) W:=fun W=>pO0 _ _ _ _ (nT Fp SX.2) W
    have hsf:∀ a c W,(Instr.slice 22 (sL a D.size c) (some (iI nv)) none none).run prog W = .ok (sfV a D.size c nv) W:=fun a c W=>jE0 _ _ _ _ Fp W
    have Ss:=hi2 hl (aI xu nV);have HAD:=hid had;have Li:nv+(D.size-nv)=D.size:=oM;have SL:=hid Li;have Sr:=hid (show nv+(D.size-nv)<=maxLen by unfold maxLen;omega);have HMb:=hid (show (nv+(D.size-nv))*1<=140737488355328 by omega);have hsz:96<=D.size:=hz.1;have HS:=hid fun V (F:Fq wc V)=>show (V.cell? wr=some (iI ya)/\V.cell? (aA wr 1)=some (sL (some ad) D.size x.lc))/\V.cell? (aA d 2)=some (.map (some bf)) from⟨(oL V F).1,(oL V F).2.1⟩;have vC:wr.heap.size≠bf:=fun e=>by
     have h1:=HC.1.dev.fast;obtain⟨l9,ck9,h9,_⟩:=h1;have:=M0 h9;omega
    have Pr:d≠bf:=fun e=>by
     obtain⟨lv9,vh,_⟩:=HC.1.dev.dc;obtain⟨l9,ck9,h9,_⟩:=HC.1.dev.fast;rw[e,h9] at vh;cases vh
    have jU:=hid (fun V (o:Obj) (F:Fq wc V)=>show ((V.putObj bf o).cell? wr=some (iI ya)/\(V.putObj bf o).cell? (aA wr 1)=some (sL (some ad) D.size x.lc))/\(V.putObj bf o).cell? (aA d 2)=some (.map (some bf)) by
     obtain⟨⟨t0,t1⟩,t2,t3,tl1,MA⟩:=oL.o V F;have FP:Fr (fun b=>b=bf) V (V.putObj bf o):=(Fr.refl (fun b=>b=bf) _).putObj (fun _=>rfl) _;exact⟨⟨(FP.cell (p:=⟨_,0,none⟩) tl1 vC).trans t0,(FP.cell (p:=⟨_,1,none⟩) tl1 vC).trans t1⟩,(FP.cell (p:=⟨_,2,none⟩) MA Pr).trans t2⟩)
    have FG:Fq wc wc.drew:=fR.drew;clear TY hl xu nV had dR Li;go_upto_region 8 with fail
    refine wp_region_noPanic ?_;refine q8 (fun V=>(V.cell? wr=some (iI ya)/\V.cell? (aA wr 1)=some (sL (some ad) D.size x.lc))/\V.cell? (aA d 2)=some (.map (some bf))) (.rd 0 (.rd 1 (.rd 2 (.rd 3 (.rd 4 (.rd 5 (.rd 6 (.rd 7 (.rd 8 (.rd 9 (.rd 10 (.rd 12 (.rd 13 (.rd 14 (.rd 15 (.rd 17 (.op 11 (.op 16 (.rd 18 (.op 19 (.op 20 .done))))))))))))))))))))) kF kF kF (fun _ _ _ _ _ h=>h) (HS _ FG) ?_;iterate 16
     refine oP ?_ ?_ ?_;rotate_left
     .intro V hV;obtain⟨⟨t0,t1⟩,t2⟩:=hV;go_simp;try with_reducible rfl
    refine rQ fun K hK=>?_;refine (oK _ FG).mono ?_;rintro _ V1 ⟨g1,cap1,rfl,K1,G83⟩;have d7:=FG.size;have FG:=FG.trans G83 nI;try go_simp
    refine hK _ _ (HS _ FG) ?_;clear hK K;refine rQ fun K hK=>?_;refine (Sf _ FG).mono ?_;rintro _ V2 ⟨ka,kc,rfl,⟨CZ,hkc⟩,Gx⟩;have hO:=ao (oN K1 Gx) d7;have FG:=FG.trans Gx nI;try go_simp
    refine hK _ _ (HS _ FG) ?_;clear hK K;refine oP ?_ ?_ ?_;rotate_left
    .intro V hV;obtain⟨⟨t0,t1⟩,t2⟩:=hV;go_simp;try with_reducible rfl
    refine rP fun K hK=>?_;refine Of rfl (.tmp 50) (.tmp 57) 22 rfl wc.heap.size 5 i0 _ 1 1 underlying22 A3 J1 M1 O1 rfl (Nat.succ_pos 0) _ nv _ rfl hO _ (D.size-nv) _ rfl (yR0 (CZ.drop Fp hkc)) (vR0 CZ) (Cy0 _) Sr.o HMb.o FG.size ?_;intro v3 W3 K0 CT;rw[<- B9] at K0;have FG:=Qz FG CT (za0 hO);rw[SL] at K0;obtain⟨g3,cap3,rfl,UD,JG,Q3⟩:=yS0 K0 oM;refine hK _ _ (HS _ FG) ?_;clear hK K;refine rP fun K hK=>?_;have ri:=Ev.o _ (oL _ FG).2.2.1 (sL g3 D.size cap3);go_simp;refine hK _ _ (jU _ _ FG) ?_;clear hK K;try simp only[Act.put,sI,sZ,sS]
    refine o5 ?_;refine NoPanic.normal ?_;go_wp2_with fail
    go_roundw;case rel =>
     obtain⟨hl,xu,nV⟩:=Ss.o;exact⟨k+1,_,hlt,by go_num,qm0 HC.1 HC.2.1 nv (HC.2.2.trans FG nI) (FG.heap hl id) xu (fun j=>(nV j).fr FG fun _ _ _ h=>h) UD JG⟩
    case measure=>exact wM
  .obtain rfl:k=n:=by omega
   have hdk:decide ((k:Int)<(k:Int))=false:=by simp
   have HC:=hid hc;have hdr:=hc.fr.heap HD.2 (nc _ _ _ HD.2);have ZK:=hid hdr;have z:=fun o=>X2 hdr o
   have ldr:=M0 hdr;have Ti:=G0 hdr 3;have c5r:=G0 hdr 5;have c7r:=G0 hdr 7;simp at Ti c5r c7r;clear hc hdr;go_wp2
   go_end0
   have F3:Fr (fun b=>b=d) wr (((wr.setCell (aA d 3) (sL none 0 0)).setCell (aA d 5) (iI 0)).setCell (aA d 7) (bO false)):=(((Fr.refl (fun b=>b=d) _).setCell (a:=⟨d,3,none⟩) (fun _=>rfl) _).setCell (a:=⟨d,5,none⟩) (fun _=>rfl) _).setCell (a:=⟨d,7,none⟩) (fun _=>rfl) _;have h3:=hsc wr d 3 (sL none 0 0) ZK.o;have h5:=hsc _ d 5 (iI 0) h3;have h7:=hsc _ d 7 (bO false) h5;refine⟨rfl,{ D with fast:=f,loose:=[],armed:=0,down:=false },HC.dev.yp0 F3 rfl rfl rfl rfl (lv:=sL none 0 0) ?_ ⟨[],World.ownsRow_nil _ _ _ _,rfl,fun i x y hx _=>by simp at hx⟩,⟨rfl,rfl,rfl,rfl,rfl,rfl,fun j hj=>HC.keep j fun y hy=>hj y (ov hy),fun hB=>HC.jY hB⟩,(HC.fr.mono fun _ _ h=>.inr h).trans F3 fun _ _ h=>.inl h⟩;rw[h7];rfl
end
end Go.Proofs.YtgdhaaokolfdoaaGreatDoor
namespace Go.Sg
open Go.RowKit
variable {F:Fence}{n:Nat}{P:Program}
def xU0 {α:Type}(F:Fence)(n:Nat)(P:Program)(g:Nat)(lb:Array Value)(encs:α->Array Value)(T:α->World->Prop)(R Kp:World->World->Prop)(S:List α->Prop)(N:Nat)(w:w9):Prop:=
 ∀ (l:Nat) (J:List α->World->Prop) (W:w9),Below w.heap.size w W->OwnFrom W.heap.size J->(∀ pre A C,J pre A->R A C->J pre C) ->
  (∀ pre x W1,J pre W1->T x W1->pre.length<N->YieldAt F (n-1) P l (encs x) W1 fun e W'=>e = rT (bO true)/\J (pre++[x]) W'/\Kp W1 W') ->
  J [] W->CallsIn F n P g (#[.func (.yield l) #[] #[]]++lb) W fun e W'=>(∃ v,e = rT v)/\∃ xs,S xs/\J xs W'
def wi0 {α:Type}(B:Nat)(Kp:World->World->Prop)(I:List α->World->Prop)(xs:List α)(W:w9):Exit->Act->World->Prop
 | .normal,_,W'=>KeepsFrom B W W'/\Kp W W'/\I xs W'
 | _,_,_=>False
variable {k:Nat}{tmps:Array Value}{assign body:Code}{w:w9}{R:Ending->World->Prop}
def ul0 {l l' k':Nat}{f:FuncId}(h:RoundIn Fence.wide k P l f tmps assign body w R):RoundIn (Fence.wide.inRound l') k' P l f tmps assign body w R:=
 ⟨trivial,fun c cs _=>h.2 c cs (room_wide _)⟩
def jk0 {α:Type}{g:Operand}{ps:Array Tmp}{Q:Exit->Act->World->Prop}{a:Act}
  (hro:F.round=none) (h1:1<=n) {gf:Nat} {lb:Array Value} (hg:a.eval g = .func (.func gf) #[] lb) (Cb:F.fn gf) (eg:∀ args w,(callFunc gf args).run P w = .ok (.enter gf args) w)
  {encs:α->Array Value} {R Kp:World->World->Prop} {S:List α->Prop} {N:Nat} {w0:w9} {T:α->World->Prop} (I:List α->World->Prop) (gB:xU0 F (n-1) P gf lb encs T R Kp S N w0)
  (Uc:∀ pre A C,I pre A->R A C->I pre C) (Jh:∀ A C b o,R A C->w.heap.size<=b->A.heap[b]?=some o->o.isCells=false->C.heap[b]?=some o)
  (mB:∀ {A B C:w9},Kp A B->Kp B C->Kp A C) (sC:∀ (W:w9) (l:Nat) (o o':Obj),l=w.heap.size+1->W.heap[l]?=some o->o.isCells=false->o.isWalk=false->Kp W (W.putObj l o'))
  (d7:Below w0.heap.size w0 w) (aD:∀ x,(encs x).size=ps.size)
  (hI:OwnFrom w.heap.size I) (h0:I [] w) (Ax:α->Act->World->Prop) (hAx:∀ x a',OwnFrom w.heap.size fun (_:Unit) W=>Ax x a' W)
  (z8:∀ (l:Nat) (pre:List α) (x:α) (W:w9) (K:Act->World->Prop),I pre W->T x W->(∀ a' W',KeepsFrom w.heap.size W W'->Kp W W'->I pre W'->Ax x a' W'->K a' W') ->
   assign.wpIn (F.inRound l) (n-1-1) P (Exit.then K fun _ _ _=>False) { tmps:=(ps.zip (encs x)).foldl (fun t (p,v)=>t.setIfInBounds p v) a.tmps,defers:=[] } W)
  (au:∀ (l:Nat) (pre:List α) (x:α) (a':Act) (W:w9),w.heap.size<=l->(∃ r,W.heap[l]?=some (.loop r))->I pre W->Ax x a' W->pre.length<N->body.wpIn (F.inRound l) (n-1-1) P (wi0 w.heap.size Kp I (pre++[x]) W) a' W)
  (hdone:∀ (D:Nat) (xs:List α) (W:w9),w.heap.size<=D->S xs->I xs W->W.heap[D]?=some (.deferred (some []))->Q .normal { a with defers:={ target:=.collected D,args:=#[] } :: a.defers } W) :
  (Code.rangeFunc g ps assign body).wpIn F n P Q a w:=by
 refine wpIn_rangeFunc fun fn U9=>?_
 rw[hro];-- the loop's record,in whatever state
 let nh:LoopState->Option Code->Loop:=fun st pe=>{ state:=st,pending:=pe,fn,tmps:=a.tmps,params:=ps,assign,body,defers:=w.heap.size }
 obtain⟨rd,B8⟩:=xe nh
 have oE:∀ st pe,(rd st pe).state=st:=fun st pe=>by rw[B8]
 have vM:∀ st pe,(rd st pe).pending=pe:=fun st pe=>by rw[B8]
 obtain⟨L,hL⟩:=xe (w.heap.size+1)
 obtain⟨W1,M2⟩:=eX ((w.alloc (.deferred (some []))).alloc (.loop (rd .ready none)))
 obtain⟨BW,gh,F1⟩:=n9 M2;rw[<- hL] at gh;have I9:I [] W1:=by rw[<- M2];exact hI.alloc _ (hI.alloc _ h0)
 have E5:Below w0.heap.size w0 W1:=by
  refine d7.trans ((Fr.below (S:=fun _=>False) F1 nI).mono d7.size)
 have E3:W1.heap.size=w.heap.size+2:=by rw[<- M2];simp
 refine⟨L,[{ target:=.collected w.heap.size,args:=#[] }],W1,{ target:=.fn (.func gf) lb,args:=#[.func (.yield L) #[] #[]] },W1,gf,#[.func (.yield L) #[] #[]]++lb,W1,?_,?_,?_,?_,fun _=>h1,?_⟩
 .rw[<- M2,hL,B8];exact run_enterLoop_outer _ _ _ _ _
 .simp only[resolve,hg];simp[go_sem]
 .intro f' pJ;simp[Target.leads] at pJ;subst pJ;exact Cb
 .simp[invoke,go_sem,eg]
 have aE:∀ {A:w9} {row:Option Nat},(∀ r,row=some r->W1.heap.size<=r/\∃ o:Obj,A.heap[r]?=some o/\o.isCells=false)->(∀ r,row=some r->w.heap.size<=r/\∃ o:Obj,A.heap[r]?=some o/\o.isCells=false):=
  fun hr r e=>by obtain⟨hB,h⟩:=hr r e;exact⟨oM,h⟩
 have hold:∀ {A B:w9} {row:Option Nat} {b:Nat} {o:Obj},A.grownBy B row->(∀ r,row=some r->W1.heap.size<=r/\∃ o:Obj,A.heap[r]?=some o/\o.isCells=false)->b<W1.heap.size->A.heap[b]?=some o->B.heap[b]?=some o:=
  fun I1 hr hb ho=>(I1.block _ (M0 ho) fun e=>by have:=(hr _ e.symm).1;omega).trans ho
 have hY:∀ pre x W,(I pre W/\W.heap[L]?=some (.loop (rd .ready none))/\W.heap[w.heap.size]?=some (.deferred (some [])))->T x W->pre.length<N ->
   YieldAt F (n-1-1) P L (encs x) W fun e W'=>e = rT (bO true)/\(I (pre++[x]) W'/\W'.heap[L]?=some (.loop (rd .ready none))/\W'.heap[w.heap.size]?=some (.deferred (some [])))/\Kp W W':=by
  rintro pre x W ⟨hi,hl,hk⟩ hT hlen;have hy:=run_yield (P:=P) (args:=encs x) hl (by rw[B8];exact aD x);rw[B8] at hy;refine⟨fn,_,assign,body,hy,roundIn_of_wpIn U9 (z8 _ pre x W _ hi hT fun a' Wa tA M4 CU Cp=>?_)⟩;have M8:=tA.same _ _ oM hl rfl;have mR:=tA.same _ _ (nR _) hk rfl;have hlt:L<Wa:=M0 M8;refine⟨_,run_beginRound M8 (oE _ _),?_⟩;obtain⟨busy,K9⟩:∃ busy:Loop,{ rd .ready none with state:=.busy }=busy:=⟨_,rfl⟩
  rw[K9];have A8:(Wa.putObj L (.loop busy)).heap[L]?=some (.loop busy):=World.putObj_heap_same hlt;have iY:(Wa.putObj L (.loop busy)).heap[w.heap.size]?=some (.deferred (some [])):=(World.putObj_heap_other oM).trans mR;refine wpIn_mono (au _ pre x a' _ oM ⟨_,A8⟩ (hI.putObj _ CU oM M8 rfl) ((hAx x a').putObj (s:=()) _ Cp oM M8 rfl) hlen) ?_;have fin:∀ (jump:Option Code) (W3:w9),KeepsFrom w.heap.size (Wa.putObj L (.loop busy)) W3 ->
    (Instr.endRound L jump).run P W3 = .ok (bO jump.isNone) (W3.putObj L (.loop (rd (if jump.isNone then .ready else .done) jump)))/\W3.heap[L]?=some (.loop busy) /\
    (W3.putObj L (.loop (rd (if jump.isNone then .ready else .done) jump))).heap[L]?=some (.loop (rd (if jump.isNone then .ready else .done) jump)) /\
    (W3.putObj L (.loop (rd (if jump.isNone then .ready else .done) jump))).heap[w.heap.size]?=some (.deferred (some [])):=fun jump W3 Q2=>by
   have Y8:=Q2.same _ _ oM A8 rfl;refine⟨?_,Y8,World.putObj_heap_same (M0 Y8),(World.putObj_heap_other oM).trans (Q2.same _ _ (nR _) iY rfl)⟩;have:=run_endRound (P:=P) jump Y8;rw[<- K9,B8] at this;rw[B8];exact this
  have A9:Kp Wa (Wa.putObj L (.loop busy)):=sC _ _ _ _ oM M8 rfl rfl;rintro e a3 W3 hp;cases e with
  | normal =>
   obtain⟨Q2,mS,pK⟩:=hp;obtain⟨hr,Y8,ja,pL⟩:=fin none W3 Q2;exact⟨_,_,hr,rfl,⟨hI.putObj _ pK oM Y8 rfl,ja,pL⟩,mB M4 (mB (mB A9 mS) (sC _ _ _ _ oM Y8 rfl rfl))⟩
  | ret=>exact hp.elim
  | exit id=>exact hp.elim
  | goto t=>exact hp.elim
  | panic ch=>exact hp.elim
  | outgrown=>exact hp.elim
 have eZ:=gB L (fun pre W=>I pre W/\W.heap[L]?=some (.loop (rd .ready none))/\W.heap[w.heap.size]?=some (.deferred (some []))) W1 E5
  (fun s A B row hs I1 hr=>⟨hI s A B row hs.1 I1 (aE hr),hold I1 hr oM hs.2.1,hold I1 hr oM hs.2.2⟩)
  (fun pre A C hj hR=>⟨Uc pre A C hj.1 hR,Jh A C _ _ hR oM hj.2.1 rfl,Jh A C _ _ hR (nR _) hj.2.2 rfl⟩)
  hY ⟨I9,gh,BW⟩
 refine eZ.mono ?_;rintro e W2 ⟨⟨v,rfl⟩,xs,hS,hi,hl,hk⟩;have hr:=run_endLoop (P:=P) hl (by rw[oE];simp);rw[vM] at hr;exact⟨none,_,hr,hdone _ xs _ (nR _) hS (hI.putObj _ hi oM hl rfl) ((World.putObj_heap_other oM).trans hk)⟩
def qH0 {fn:Func}{D:Nat}{W:w9}(h:fn.results=#[])(hK:W.heap[D]?=some (.deferred (some [])))
  (hR:R (rT (tU #[])) (W.putObj D (.deferred none))):bodyPostM Fence.wide k P fn R .normal { tmps:=tmps,defers:=[{ target:=.collected D,args:=#[] }] } W:=
 ⟨by simp,.inl ⟨_,_,rfl,run_takeDeferred hK,_,results_none h _ _ _,hR⟩⟩
end Go.Sg
namespace Go.Proofs.YtgdhaaokolfdoaaGreatDoor
open Tryz
section
open Go.RowKit Go.Sg Go.Shelf
attribute [local go_sem] Oper.semAt_some
structure Sw where
 la:Option Addr
 ll:Nat
 lc:Nat
abbrev Sw.v (x:Sw):Value:=sL x.la x.ll x.lc
def qL (ws:List Sw)(k:Nat):List (Nat × Sw):=(List.range k).map fun j=>(ws.length-1-j,ws.getD (ws.length-1-j) ⟨none,0,0⟩)
def oT0 (ws:List Sw)(k:Nat):qL ws (k+1)=qL ws k++[(ws.length-1-k,ws.getD (ws.length-1-k) ⟨none,0,0⟩)]:=by
 simp[qL,Ah]
def sx0 (ws:List Sw)(k:Nat):(qL ws k).length=k:=by simp[qL]
def qt0 (ws:List Sw){a b:Nat}(h:a<=b):qL ws a <+: qL ws b:=by
 induction b with
 | zero =>
  obtain rfl:a=0:=oM
  exact Ai
 | succ b ih =>
  by_cases hk:a=b+1
  .subst hk;exact Ai
  .rw[oT0];exact (ih oM).trans (List.prefix_append _ _)
def rC0 (a:Option Addr)(n c:Nat)(w:w9) :
  cP 235 #[sL a n c] w fun e w'=>e = rT (.func (.func 271) #[] #[pO w])/\w.alloc (.cells #[sL a n c] 203)=w':=by
 go_enter func235,ntmps235;go_wp2
 go_ret;exact⟨rfl,rfl⟩
abbrev Zq (ok:Nat->Sw->Prop):={ p:Nat × Sw // ok p.1 p.2 }
abbrev Zc {ok:Nat->Sw->Prop}(x:Zq ok):Array Value:=#[iI x.1.1,sL x.1.2.la x.1.2.ll x.1.2.lc]
variable {a:Option Addr}{w:w9}{base c:Nat}{ws:List Sw}
def mf0 (h:w.ownsRow base 22 1 (sL a ws.length c) ws.length (ws.map Sw.v)){j:Nat}{x:Sw}(hx:ws[j]?=some x) :
  ∃ g cur,a=some ⟨g,0,none⟩/\w.heap[g]?=some (.cells cur 22)/\cur[j]?=some (sL x.la x.ll x.lc):=by
 obtain⟨hl,⟨h1,h2⟩|⟨g,cap,cur,h1,_,hg,_,_,_,ht⟩⟩:=h
 .have:=(gI.1 hx).1;omega
 .cases h1;have k0:(ws.map Sw.v)[j]?=some x.v:=by rw[gP,hx];rfl
  have hj:=(gI.1 hx).1;rw[<- ht] at k0;rw[gT,if_pos oM] at k0;exact⟨g,cur,rfl,hg,by simpa using k0⟩
def nw0 {ok:Nat->Sw->Prop}{bx:Nat}(h:w.ownsRow base 22 1 (sL a ws.length c) ws.length (ws.map Sw.v))(hlen:ws.length<=100000)(hok:∀ i x,ws[i]?=some x->ok i x)(hx:w.heap[bx]?=some (.cells #[sL a ws.length c] 203)) :
  SeqStopsK Fence.wide 9 prog 271 #[pO bx] (Zc (ok:=ok)) (Hp bx a) (fun xs=>xs.map (·.1)=qL ws ws.length) (fun pre=>pre.map (·.1) <+: qL ws ws.length) ws.length w:=fun l J Jx W hW hJ _ hY h0=>by
 have U3:=M0 hx;have C6:=(hW.block bx U3).trans hx;have B6:∀ (j:Nat) (x:Sw),ws[j]?=some x->∃ g cur,a=some ⟨g,0,none⟩/\W.heap[g]?=some (.cells cur 22)/\cur[j]?=some (sL x.la x.ll x.lc):=fun j x hj=>by
  obtain⟨g,cur,e,hg,r⟩:=mf0 h hj;exact⟨g,cur,e,(hW.block g (M0 hg)).trans hg,r⟩
 have oK:=hid B6;have HX:=hid C6;have cx:=G0 C6 0;simp at cx;clear hx hW h B6 C6;refine callsIn_of_wp func271 rfl trivial ?_ rfl;simp only[ntmps271,zA,lC,cJ,Nat.reduceAdd,Nat.reduceSub,dV,dW,dZ,dX,C7,ak];gi_wp2
 gi_loopw [3] (fun i wr=>∃ k:Nat,k<=ws.length/\i = iI ((ws.length:Int)-1-k)/\(∃ pre:List (Zq ok),pre.map (·.1)=qL ws k/\J pre wr)/\Hp bx a W wr) fun i _=>(intOf i+1).toNat
 case atStart=>exact⟨0,C3 _,by simp,⟨[],rfl,h0⟩,rfl,fun _ _=>rfl⟩
 case round =>
  obtain⟨k,hk,rfl,⟨pre,hpre,gY⟩,M4⟩:=hrel;have me:=hid hpre;have ik:pre.length=k:=by have:=congrArg List.length hpre;rw[sx0] at this;simpa using this
  have Sx:=hid ik;clear hpre ik;have cb:=G0 (M4.1.trans HX.o) 0;simp at cb;by_cases hlt:k<ws.length
  .obtain⟨j,hj⟩:∃ j:Nat,ws.length=j+1+k:=⟨ws.length-1-k,oM⟩
   have ej:(ws.length:Int)-1-k=(j:Int):=oM
   obtain⟨x,hx⟩:∃ x,ws[j]?=some x:=⟨_,gE oM⟩
   obtain⟨g,cur,rfl,hg,h1⟩:=oK.o j x hx;have I1:=(M4.2 g rfl).trans hg;have c1:wr.cell? (aA g j)=some (sL x.la x.ll x.lc):=(G0 I1 j).trans h1;have hs:qL ws (k+1)=qL ws k++[(j,x)]:=by
    rw[oT0,show ws.length-1-k=j by omega];simp[List.getD,hx]
   have HS:=hid hs;have qF:=hok j x hx;have HK:=hid M4;have RJ:=hid ej;have GM:=hid hj;rw[ej];obtain⟨xa,xl,xc⟩:=x;clear hs hg I1 h1 hx M4 ej hj;obtain⟨fn,tmps,assign,body,hy,hR⟩:=hY _ ⟨(j,⟨xa,xl,xc⟩),qF⟩ wr gY (by rw[Sx.o];exact hlt);dsimp only[Zc] at hy;have fK:j<ws.length:=by have:=GM.o;omega
   gi_wp2
   refine hR.mono ?_;rintro e W3 (⟨rfl,o6,Q2⟩|⟨rfl,N3⟩)
   .have rJ:=hid o6;have lY:=hid Q2;clear o6 Q2;gi_wp2
    go_roundw;case rel=>exact⟨k+1,oM,by have:=RJ.o;go_num,⟨_,by rw[HS,B9,me];rfl,rJ.o⟩,lY.1.trans HK.1,fun g' e=>(lY.2 g' e).trans (HK.2 g' e)⟩
    case measure=>simp[intOf]
   .have fV:=hid N3;clear N3;gi_wp2
    refine bodyPost_ret (results_none rfl _ _ _) rfl ?_;exact⟨⟨_,rfl⟩,.inr ⟨_,(by have:=qt0 ws (a:=k+1) (b:=ws.length) (by have:=GM.o;omega);rw[HS] at this;rw[B9,me];exact this),fV.o⟩⟩
  .obtain rfl:k=ws.length:=by omega
   have e1:(ws.length:Int)-1-(ws.length:Int) = -1:=oM
   rw[e1];gi_wp2
   go_end0
   exact⟨⟨_,rfl⟩,.inl ⟨_,me.o,gY⟩⟩
end
section
open Go.RowKit Go.Sg Go.Shelf
attribute [local go_sem] Oper.semAt_some
def vE0 (d:Nat)(at_:Int)(w:w9) :
  cP 177 #[pO d,iI at_] w fun e w'=>e = rT (.func (.func 234) #[] #[pO w,pO (aP (w+1) 0)])/\(w.alloc (.cells #[pO d] 27)).alloc (.cells #[iI at_] 3)=w':=by
 go_enter func177,ntmps177;go_wp2
 go_ret;exact⟨by simp,rfl⟩
