/- A pack of texts. Conditions: those that each names. -/
import Derived.Test.YtgdhaaokolfdoaaGreatDoorNBO
set_option maxHeartbeats 16000000
set_option maxRecDepth 100000
set_option linter.all false
namespace Go.Proofs.YtgdhaaokolfdoaaGreatDoor
open Tryz
section
open Go.RowKit Go.Sg Go.Shelf
def YU (w:w9)(e:Ending)(w':w9):Prop:=∃ b,e = rT (bO b)/\Fq w w'
def wA0 {D:Dev}(hl:D.loose=[])(O2:∀ k bs,D.fast k=some bs->∀ x ∈ bs,0<=x/\x<256)(q:Int):∀ x ∈ D.sec q,0<=x/\x<256:=by
 rw[Iv (by rw[hl];intro z hz;cases hz)];cases hf:D.fast q with
 | none =>
  intro x hx;have:=Ad hx;omega
 | some bs=>exact O2 q bs hf
def sH0 {w:w9}{base d bf bq:Nat}{D:Dev}(h:Q4 w base d bf bq D)(A4:D.down=false)(hl:D.loose=[])(O2:∀ k bs,D.fast k=some bs->∀ x ∈ bs,0<=x/\x<256)(Q7:D.acts<=100000) :
  cP 80 #[pO d] w (YU w):=by
 obtain⟨lv,xq,-⟩:=h.dc;have C8:=h.rg;obtain⟨ns,hns⟩:=eX D.C0
 have hD:=fun (W:w9) (F:Fq w W)=>h.fr F id id id fun _ _ _ _ _ h=>h
 have Hg:=hid (fun (W:w9) (F:Fq w W)=>jG0 (w:=W) (d:=d) (n:=(ns:Int)) (by have:=G0 (F.heap xq id) 0;simpa[hns] using this));have wu:=hid (fun (W:w9) (F:Fq w W) (q:Nat) (hq:q<ns)=>it0 (hD W F) A4 (by rw[hl];intro y hy;cases hy) (by rw[hl];exact C3 _) q oM);have HPa:=hid fun (W:w9) (F:Fq w W) (q:Nat) (hq:q<ns)=>zX0 (hD W F) Q7 (k:=q) oM;have MZ:=hid fun q:Nat=>wA0 hl O2 (q:Int);have hns0:ns<=16384:=oM
 obtain⟨sz,hsz⟩:=eX D.size
 rw[hsz] at C8;have VY:=C8.2;have eL:=hid hsz;clear h xq C8 hD hns hl O2 hsz;go_enter func80,ntmps80;go_wp2_with fail
 go_loopw [3] (fun i wr=>∃ q:Nat,q<=ns/\i = iI q/\Fq w wr) fun i _=>ns-(intOf i).toNat
 case atStart=>exact⟨0,C3 _,rfl,fR⟩
 case round =>
  obtain⟨q,hq,rfl,hF⟩:=hrel;have HF:=hid hF;clear hF;by_cases hlt:q<ns
  .have hd:decide ((q:Int)<(ns:Int))=true:=by simp;omega
   have hqw:wrap64 ((q:Int)+1)=((q+1:Nat):Int):=by simp only[wrap64];omega
   go_wp2_with fail
   (with_reducible refine (Hg.o _ HF.o).mono ?_)
   rintro _ _ ⟨rfl,rfl⟩;go_wp2_with fail
   (with_reducible refine (wu.o _ HF.o q hlt).mono ?_)
   rintro _ W1 ⟨a,c,rfl,⟨hb,hc⟩,F1⟩;obtain⟨b,off,cs,rfl,Cv⟩:∃ b off cs,a=some ⟨b,off,none⟩/\W1.heap[b]?=some (.cells cs 5):=by
    rcases hb.at_ with⟨_,h0,_⟩|h0
    .have:=eL.o;omega
    .exact h0
   rw[eL] at hb hc ⊢;have HR:=hid (wN0 hb (MZ q) VY hc);have H1:=hi2 hb (HF.trans F1 nI);clear hb Cv F1;go_wp2_with fail
   (with_reducible refine HR.o.mono ?_)
   rintro _ W2 ⟨kd,pl,st,k,s,rfl,F2⟩;have E7:=H1.2.trans F2 nI;have H2:=hi2 (H1.1.fr F2 fun _ _ _ h=>h) E7;clear F2 E7 HR H1;by_cases hk:k=0
   .subst hk;go_wp2_with fail
    (with_reducible refine (HPa.o _ (H2.o.2.alloc _) q hlt).mono ?_)
    rintro _ W4 ⟨va,vc,xs,rfl,A0,hT,F4⟩;have qt:=((Fr.refl (fun _=>False) W2).alloc _).trans F4 nI;obtain⟨n,hn⟩:=eX xs.length
    have hnm:n<=maxLen:=by
     obtain⟨a',c',e,h1,h2,-⟩:=A2 A0;omega
    have hnm':n<=9223372036854775807:=(by simpa[maxLen] using hnm);have H4:=hi2 A0 (aI hT (aI (H2.1.fr qt fun _ _ _ h=>h) (H2.2.trans qt nI)));have HN:=hid hn;clear A0 hT F4 qt hnm H2;rw[hn];go_wp2_with fail
    go_loopw [8,10] (fun gv iv wr=>∃ (gb:Bool) (j:Nat),gv = bO gb/\j<=n/\iv = iI j/\Fq W4 wr) fun _ iv _=>n-(intOf iv).toNat
    case atStart=>exact⟨false,0,rfl,C3 _,rfl,fR⟩
    case round =>
     obtain⟨gb,j,rfl,hj,rfl,fG⟩:=hrel;have fT:=hid fG;by_cases hjl:j<n
     .have vj:decide ((j:Int)<(n:Int))=true:=sO;have Vj:wrap64 ((j:Int)+1)=((j+1:Nat):Int):=(by simp only[wrap64];omega);obtain⟨x,hx⟩:∃ x,xs[j]?=some x:=⟨_,gE (by rw[HN.o];exact hjl)⟩
      obtain⟨g,cur,rfl,hg,hcx⟩:=mf0 H4.1 hx;obtain⟨dS,bs,U3⟩:=H4.2.1 x (gM hx);have c0:=(G0 (fG.heap hg id) j).trans hcx;have fJ:=M0 (fG.heap hg id);have CB:=U3.fr fG fun _ _ _ h=>h;have cX:=H4.2.2.1.fr fG fun _ _ _ h=>h;have k1:=uU CB;have k2:=uU cX;have Fk:(j:Int)<(n:Int):=oM;clear fG hx hg hcx U3;cases gb with
      | true =>
       go_wp2_with fail
       go_quiet (fail)
       go_wp2_with fail
       go_roundw;case rel=>exact⟨_,j+1,rfl,hjl,by go_num,(fT.drewN _)⟩
       case measure=>exact wM
      | false =>
       have HC:=hid fun V (F:Fq wr V)=>aI ((F.cell (p:=⟨g,j,none⟩) fJ id).trans c0) (aI (uU (CB.fr F fun _ _ _ h=>h)) (uU (cX.fr F fun _ _ _ h=>h)));have FD:=(Fr.refl (fun _=>False) wr).drew;clear k1 k2 CB cX;go_upto_region 14 with fail
       refine wp_region_noPanic ?_;refine q8 (fun V=>Fq wr V) (.rd 0 (.rd 1 (.rd 2 (.rd 3 (.rd 4 (.rd 5 (.rd 6 (.rd 7 (.rd 8 (.rd 9 (.rd 10 (.rd 11 .done)))))))))))) kF kF kF (fun _ _ _ _ _ h=>h) FD ?_;iterate 12
        refine oP ?_ ?_ ?_;rotate_left
        .intro V hV;obtain⟨e1,e2,e3⟩:=HC.o V hV;go_simp;try with_reducible rfl
       refine o5 ?_;refine NoPanic.normal ?_;try simp only[Act.put,sI,sZ,sS]
       go_wp2_with fail
       go_roundw;case rel=>exact⟨_,j+1,rfl,hjl,by go_num,fT.drew⟩
       case measure=>exact wM
     .obtain rfl:j=n:=by omega
      have vj:decide ((j:Int)<(j:Int))=false:=sP;cases gb with
      | true =>
       go_wp2_with fail
       go_roundw;case rel=>exact⟨q+1,hlt,by go_num,H4.2.2.2.trans fT.o nI⟩
       case measure=>exact wM
      | false =>
       go_wp2_with fail
       go_ret;exact⟨_,rfl,H4.2.2.2.trans fT.o nI⟩
   .have CZ:(k == 0)=false:=(by simpa using hk);clear hk;go_wp2_with fail
    go_roundw;case rel=>exact⟨q+1,hlt,by go_num,H2.2.alloc _⟩
    case measure=>exact wM
  .obtain rfl:q=ns:=by omega
   have hd:decide ((q:Int)<(q:Int))=false:=by simp
   go_wp2_with fail
   (with_reducible refine (Hg.o _ HF.o).mono ?_)
   rintro _ _ ⟨rfl,rfl⟩;go_wp2_with fail
   go_ret;exact⟨_,rfl,HF.o⟩
end
section
open Go.RowKit Go.Sg Go.Sg.Bits Go.Sg.r4 CP SF
def Dy0 {w:w9}{B:P0}{y:Cs}{P:J2}{a:Bool}{N:Nat}(h:C1 w B y P a N)(k:Int)(hk:k<=9223372036854775807) :
  cP 40 #[pO (aP B.d 0),iI k] w fun e w'=>e = rT (tU #[])/\D0 B w w'/\C1 w' B y P true N:=by
 obtain⟨⟨x,c,hS,rfl,hi⟩,hT,hb⟩:=h;refine (Bx0 hS.dev k hk).mono ?_;rintro e w' ⟨n,hn,he,hD,F⟩;obtain⟨K8,FB⟩:=hS.Xm (F.mono fun _ _ h=>.inl h) hD rfl rfl;have hh:=hi.holds.T1 FB;exact⟨he,FB,⟨⟨_,c,K8,rfl,⟨hi.down,⟨hi.dev.acts,hi.dev.many,hi.dev.len,hi.dev.cu,hn,fun h=>(by cases h),hi.dev.jY⟩,⟨hh.ok,hh.mem,hh.dev⟩,hi.rq,hi.apart,hi.few⟩⟩,hT.fr FB fun h=>oM,hb⟩⟩
def yv (w0:w9)(base bv:Nat)(P:D4)(N:Nat)(V:w9):Prop:=
 ∃ (bf bq:Nat) (D:Dev),Q4 V base bv bf bq D/\bj D P true N/\(D.C0=120/\D.size=96)/\Fq w0 V/\base=w0.heap.size
def Aw (w0:w9)(base bv:Nat)(P:D4)(N:Nat)(V:w9):Prop:=
 ∃ (bf bq:Nat) (D:Dev),Q4 V base bv bf bq D/\bj D P false N/\(D.C0=120/\D.size=96)/\(D.loose=[]/\D.down=false)/\Fq w0 V/\base=w0.heap.size
section
variable {w0 V V':w9}{base bs bv bx N G gen:Nat}{P:D4}{a:Bool}{t tw:Tr}{sp rp rs:Int}
def Aw.J0 (h:Aw w0 base bv P N V)(F:Fq V V'):Aw w0 base bv P N V':=by
 obtain⟨bf,bq,D,h1,h2,h3,h4,h5,h6⟩:=h;exact⟨bf,bq,D,h1.fr F id id id fun _ _ _ _ _ h=>h,h2,h3,h4,h5.trans F nI,h6⟩
def Aw.fr (h:Aw w0 base bv P N V):Fq w0 V:=by
 obtain⟨_,_,_,_,_,_,_,h,_⟩:=h;exact h
def yv.fr (h:yv w0 base bv P N V):Fq w0 V:=by
 obtain⟨_,_,_,_,_,_,h,_⟩:=h;exact h
def yv.mono (h:yv w0 base bv P N V){N':Nat}(hN:N<=N'):yv w0 base bv P N' V:=by
 obtain⟨bf,bq,D,h1,h2,h3⟩:=h;exact⟨bf,bq,D,h1,h2.mono hN,h3⟩
def Z7.over (h:Z7 w0 base bs bv bx P true N G t sp V):yv w0 base bv P N V:=by
 obtain⟨B,bd,y,x,t',hT,-,⟨hB,-,rfl⟩,hF,U1,-,hf⟩:=h;obtain⟨Ar,L0,hM,-⟩:=hT.ex;have hz:=hM.dn hf;obtain⟨⟨x0,c,hS,rfl,hi⟩,-,-⟩:=hM.st;exact⟨B.bf,B.bq,x0.dev,by rw[<- hB];exact hS.dev,hi.dev,hz,hF,U1.1⟩
def fp.over (h:fp w0 base bv P N V)(hb:base=w0.heap.size):yv w0 base bv P N V:=by
 obtain⟨B,y,hD,⟨hB,rfl⟩,hF,hz⟩:=h;obtain⟨D,h1,hok,-,k1,k2⟩:=hD.ex;exact⟨B.bf,B.bq,D,by rw[<- hB];exact h1,hok,⟨k1.trans hz.1,k2.trans hz.2⟩,hF,hb⟩
def Bi0 (h:Z7 w0 base bs bv bx P a N G t sp V)(k:Int)(hk:k<=9223372036854775807) :
  cP 40 #[pO bv,iI k] V (fun e w'=>e = rT (tU #[])/\D1 base V w'/\Z7 w0 base bs bv bx P true N G t sp w'):=by
 obtain⟨B,bd,y,x,t',hT,rfl,⟨hB,rfl,rfl⟩,hF,U1,hG⟩:=h;obtain⟨E0,L,hM,hP⟩:=hT.ex;refine (Dy0 hM.st k hk).mono ?_;rintro e w' ⟨rfl,F,hS⟩;have FI:D1 base V w':=by rw[<- hB];exact uR F
 exact⟨rfl,FI,B,bd,y,x,t',⟨⟨E0,L,{ hM with st:=hS,idx:=wO hM.idx F,dir:=hM.dir.T1 F },hP⟩,hT.high,hT.ok⟩,rfl,⟨hB,rfl,rfl⟩,FI.J0 (N6 U1.1.symm) hF,U1,hG⟩
def wy0 (h:yv w0 base bv P N V)(hN:N<=90000){fa:Option Addr}{fn fc:Nat}{fl:List Int}(U8:eO w0 fa fn fc fl)(U9:fn<=60)(o7:∀ z ∈ fl,-9223372036854775808<=z/\z<9223372036854775808) :
  cP 42 #[pO bv,sL fa fn fc] V (fun e w'=>e = rT (tU #[])/\D1 base V w'/\Aw w0 base bv P N w'):=by
 obtain⟨bf,bq,D,hD,hok,hz,hF,hb⟩:=h;refine (vV0 hD hok.len (by have:=hok.many;omega) (U8.fr hF fun _ _ _ _ _ h=>h) oM o7 fun b off e hne=>?_).mono ?_
 .obtain⟨z,zs,hz⟩:=List.exists_cons_of_ne_nil hne;obtain⟨b',off',e',P4,-⟩:=U8.at_ 0 z (by rw[hz];rfl);rw[e] at e';cases e';have:=hD.ge;omega
 .rintro e w' ⟨rfl,D',uX,hC,F⟩;have cE:=hD.ge;obtain⟨lv,hd,-⟩:=hD.dc;obtain⟨l',js,hf,-⟩:=hD.fast;have FI:D1 base V w':=Fr.mono F fun b _ hs=>by
   rcases hs with rfl|rfl
   .exact⟨cE.1,fun c t f hc=>by rw[hd] at hc;cases hc;decide⟩
   .exact⟨cE.2.1,fun c t f hc=>by rw[hf] at hc;cases hc⟩
  exact⟨rfl,FI,bf,bq,D',uX,hok.crash hC,⟨hC.C0.trans hz.1,hC.size.trans hz.2⟩,⟨hC.loose,hC.down⟩,hF.trans F fun b P4 hs=>oM,hb⟩
def zk0 (h:Aw w0 base bv P N V)(hN:N<=90000):cP 80 #[pO bv] V (YU V):=by
 obtain⟨bf,bq,D,hD,hok,hz,hl,hF,hb⟩:=h;exact sH0 hD hl.2 hl.1 hok.jY.2 (by have:=hok.acts;omega)
def wu0 (h:Aw w0 base bv P N V)(hT:Tab V)(h0:0<base)(hN:N<=90000)(hc:MP P rp rs tw)(hg:gen<=1099511627776) :
  cP 30 #[pO bv,fC.val,iI gen] V (fun e w'=>∃ bs':Nat,e = rT (tU #[pO bs',iI 0])/\Fq V w'/\SOp w0 base bs' bv N gen rp rs tw w'):=by
 obtain⟨x,t1,hC,Fx,hx⟩:=hc;obtain⟨P',c,E0,L,h1,hC',h3,h4,h5,h6,h7,h8⟩:=hC.narrow;obtain⟨bf,bq,D,hD,kC,⟨E3,fP⟩,⟨-,hdn⟩,hF,hb⟩:=h;obtain⟨sec,size,fast,loose,armed,acts,down⟩:=D;simp only at E3 fP hdn;subst E3 fP;refine (tR0 hD (by rw[hb];exact hF.size) 3 2 4 3 8 0 gen hg Ey).mono ?_;rintro e w' ⟨B',⟨e1,e2,e3,e4⟩,rfl,K8,F⟩;have hO:YP (Ga fC gen ⟨120,96,fast,loose,armed,acts,down⟩ c) gen c:=⟨rfl,(show (S6 fC).page=12 by decide +kernel),(show (S6 fC).pages.toNat=108 by decide +kernel),rfl,rfl,rfl,rfl,rfl,rfl,rfl,rfl⟩;obtain⟨d1,d2⟩:=h5 _ hO.cont hO.room;refine⟨B'.s,rfl,F,B',Ga fC gen ⟨120,96,fast,loose,armed,acts,down⟩ c,P',x,t1,E0,L,⟨tS0 K8 (hT.fr F id) (by rw[e1];exact h0) (fun h=>by cases h) ⟨kC.acts,kC.many,kC.len,fun k bs hk=>kC.cu k bs (h1 k bs hk),kC.armed,kC.calm,kC.jY⟩ hdn hN c fun k st bs hk=>?_,⟨⟨gen,c,hO⟩,d1,d2,h6,h7,h8,h4,hC.high,hC.ok,hC.per⟩,hC'⟩,Fx,hx,⟨e1,rfl,e2⟩,hF.trans F nI,hb,hO.gen,hO.first⟩;obtain⟨k1,k2⟩:=h3 k st bs hk;have k3:=kC.cu _ _ (h1 _ _ k2);refine⟨?_,?_⟩
 .show Ae (S6 fC).pages.toNat 77 k st bs;rw[show (S6 fC).pages.toNat=108 by decide +kernel];exact k1
 .show Dev.sec _ ((S6 fC).page+k)=D6 96 2 k.toNat st bs;rw[show (S6 fC).page=12 by decide +kernel,Iv k3.2,k3.1];rfl
end
def jB0:∀ (l m:List Int),l.Pairwise (· < ·)->m.Pairwise (· < ·)->(∀ z,z ∈ l↔z ∈ m)->l=m
 | [],[],_,_,_=>rfl
 | [],y :: m,_,_,h=>by have:=(h y).2 (List.mem_cons_self ..);cases this
 | x :: l,[],_,_,h=>by have:=(h x).1 (List.mem_cons_self ..);cases this
 | x :: l,y :: m,hl,hm,h=>by
  rw[DO] at hl hm;have e:x=y:=by
   rcases d9.1 ((h x).1 (List.mem_cons_self ..)) with e|h1
   .exact e
   .rcases d9.1 ((h y).2 (List.mem_cons_self ..)) with e|h2
    .exact e.symm
    .have:=hl.1 y h2;have:=hm.1 x h1;omega
  subst e;rw[jB0 l m hl.2 hm.2 fun z=>⟨fun hz=>?_,fun hz=>?_⟩]
  .rcases d9.1 ((h z).1 (jH _ hz)) with e|h1
   .have:=hl.1 z hz;omega
   .exact h1
  .rcases d9.1 ((h z).2 (jH _ hz)) with e|h1
   .have:=hm.1 z hz;omega
   .exact h1
def uL0 (f:Nat->Bool)(m:Nat):(tu f m).Pairwise (· < ·):=by
 unfold tu;rw[An];exact (List.pairwise_lt_range.filter f).imp fun h=>by simpa using h
section
variable {w0 V V':w9}{base bs bv bx N G gen:Nat}{P:D4}{t tw:Tr}{sp:Int}
def ww0 (h:oU (fun y=>y.dying=(fun _=>false)/\y.dead=fun _=>false) w0 base bs bv bx P false N G t sp V)(hN:N+10<=90000) :
  cP 72 #[O7 bx] V (fun e w'=>∃ (a:Option Addr) (c:Nat) (ps:List Int),e = rT (tU #[sL a ps.length c,iI 0])/\ps.length<=11/\w'.ownsRow V 3 1 (sL a ps.length c) ps.length (ps.map (Value.int .i64)) /\
   oU (fun y=>tu y.taken y.pages=ps) w0 base bs bv bx P false (N+10) G t sp w'/\D1 base V w'):=by
 have h8:=MC h.kp.high.1;obtain⟨B,bd,y,x,t',hT,rfl,hB,hF,U1,hG,hd⟩:=h;obtain⟨E0,L,hM,hP⟩:=hT.ex;rw[Ig] at h8;have hlen:=hM.c.D7;refine (uB0 hM hN).mono ?_;rintro e w' ⟨a,n,c,rfl,F,⟨ps,aD,rfl,ho⟩,Ug⟩;have FI:D1 base V w':=by rw[<- hB.1];exact uR F
 have X4:=hM.BW0 (mS0 (N6 hT.high) hP);rw[<- aD] at X4;have lH:=hM.lv;have hst:=(TI _ none (pN0 ((((x.rp,x.rs) :: E0)++t'.slots x.depth).map (·.1))) fun z hz=>by cases hz).1;rw[<- aD] at hst;have jD:ps.length<=11:=by
  have h2:=hP.length_eq;rw[ER] at h2;rw[X4.length_eq,Z8,lA];have h3:=(LQ hM.per (by have:=hT.depth;have:=hM.per;omega)).1;simp only[B2,X6,lC,Z8];omega
 refine⟨a,c,ps,rfl,jD,ho,⟨B,bd,y,x,t',⟨⟨E0,L,Ug,hP⟩,hT.high,hT.ok⟩,rfl,hB,FI.J0 (N6 U1.1.symm) hF,U1,hG,?_⟩,FI⟩;refine jB0 _ _ (uL0 _ _) hst fun z=>?_
 rw[zh0,X4.mem_iff,N4];constructor
 .rintro⟨k,rfl,hk,iY⟩;rcases lH.all k hk iY with h1|h1|h1
  .exact⟨k,h1,rfl⟩
  .rw[hd.1] at h1;cases h1
  .rw[hd.2] at h1;cases h1
 .rintro⟨k,hk,rfl⟩;exact⟨k,rfl,lH.lt k hk,(lH.tk k hk).1⟩
def wv0 {Z:Cs->Prop}(h:oU Z w0 base bs bv bx P false N G t sp V):cP 32 #[pO bs] V (fun e w'=>∃ (v0:Value) (a1 a2 a3:Option Addr) (n1 n2 n3 c1 c2 c3:Nat) (y:Cs),e = rT (.agg #[v0,sL a1 n1 c1,sL a2 n2 c2,sL a3 n3 c3])/\Ints w' v0 (tu y.taken y.pages)/\Z y/\Fq V w'):=by
 obtain⟨B,bd,y,x,t',hT,rfl,⟨hB,rfl,rfl⟩,hF,U1,hG,hz⟩:=h;obtain⟨E0,L,hM,hP⟩:=hT.ex;refine (zY0 hM.st).mono ?_;rintro e w' ⟨v0,v1,v2,v3,L1,L2,L3,rfl,i0,i1,i2,i3,-,F⟩;obtain⟨u1,x1,rfl,-⟩:=i1;obtain⟨u2,x2,rfl,-⟩:=i2;obtain⟨u3,x3,rfl,-⟩:=i3;exact⟨v0,u1,u2,u3,_,_,_,x1,x2,x3,y,rfl,i0,hz,F⟩
end
end
end Go.Proofs.YtgdhaaokolfdoaaGreatDoor
namespace Go.Sg
open Go.RowKit
section
variable {P:Program}{ops:Array Oper}{Q:Exit->Act->World->Prop}{md:Region.Mode}{S:World->Prop}
inductive Pm where
 | done
 | nil
 | rd (i:Nat) (p:Pm)
 | alt (i:Nat) (p r:Pm)
def Pm.heads:Pm->List Nat
 | .alt i _ r=>i :: r.heads
 | _=>[]
def oC (P:Program)(md:Region.Mode)(ops:Array Oper)(Q:Exit->Act->World->Prop)(S:World->Prop):Pm->Act->World->Prop
 | .done,a,w=>Q .normal a w
 | .nil,_,_=>True
 | .rd i p,a,w=>∃ v o,ops[i]?=some o/\YieldsIf P ops S o v a/\oC P md ops Q S p (a.put o.dst v) w
 | .alt i p r,a,w=>wpOp P ops Q i (fun a' w'=>S w'/\oC P md ops Q S p a' w') a w/\oC P md ops Q S r a w
def oD (md:Region.Mode)(ops:Array Oper):Pm->Nat->Bool->Array Bool->Bool
 | .done,_,top,listed=>top && (Region.ready md ops listed).isEmpty
 | .nil,_,top,_=>!top
 | .rd i p,n+1,top,listed=>top && Region.free md ops listed i && (Region.ready md ops listed).contains i && oD md ops p n true (listed.setIfInBounds i true)
 | .alt i p r,n+1,top,listed=>(!top || decide (Region.ready md ops listed=i :: r.heads)) && oD md ops p n true (listed.setIfInBounds i true) && oD md ops r (n+1) false listed
 | .rd _ _,0,_,_=>false
 | .alt _ _ _,0,_,_=>false
def Od (hs:Region.noSelect ops=true)(hQ:∀ c a d v w,Q (.panic c) (Act.put a d v) w->Q (.panic c) a w):∀ (l:Pm),
  (∀ (n:Nat) (listed:Array Bool) (a:Act) (w:w9),oD md ops l n true listed=true->S w->oC P md ops Q S l a w->wpAnyH P md ops Q S n listed a w) /\
  (∀ (n:Nat) (top:Bool) (listed:Array Bool) (a:Act) (w:w9),oD md ops l (n+1) top listed=true->oC P md ops Q S l a w->∀ k ∈ l.heads,wpOp P ops Q k (fun a' w'=>S w'/\wpAnyH P md ops Q S n (listed.setIfInBounds k true) a' w') a w)
 | .done=>⟨fun n listed a w hB _ h=>wpAnyH_done (by simpa[oD] using hB) h _,fun _ _ _ _ _ _ _ k hk=>by cases hk⟩
 | .nil=>⟨fun n listed a w hB _ _=>by simp[oD] at hB,fun _ _ _ _ _ _ _ k hk=>by cases hk⟩
 | .rd i p=>⟨fun n listed a w hB hS h=>by
   cases n with
   | zero=>simp[oD] at hB
   | succ n =>
    simp only[oD,Bool.true_and,uh] at hB;obtain⟨v,o,ho,hy,hr⟩:=h;exact wpAnyH_take ho hs hB.1.1 hB.1.2 (fun c a w=>hQ c a _ _ w) hy hS ((Od hs hQ p).1 n _ _ _ hB.2 hS hr),fun _ _ _ _ _ _ _ k hk=>by cases hk⟩
 | .alt i p r=>by
  have hb:∀ (n:Nat) (top:Bool) (listed:Array Bool) (a:Act) (w:w9),oD md ops (.alt i p r) (n+1) top listed=true->oC P md ops Q S (.alt i p r) a w->∀ k ∈ (Pm.alt i p r).heads,wpOp P ops Q k (fun a' w'=>S w'/\wpAnyH P md ops Q S n (listed.setIfInBounds k true) a' w') a w:=fun n top listed a w hB h k hk=>by
   simp only[oD,uh] at hB;rcases d9.1 hk with rfl|hk
   .exact wpOp_mono (fun a' w' h'=>⟨h'.1,(Od hs hQ p).1 n _ _ _ hB.1.2 h'.1 h'.2⟩) h.1
   .exact (Od hs hQ r).2 n false listed a w hB.2 h.2 k hk
  refine⟨fun n listed a w hB hS h=>?_,hb⟩;cases n with
  | zero=>simp[oD] at hB
  | succ n =>
   have II:=hB;simp only[oD,uh,Bool.not_true,Bool.false_or,decide_eq_true_eq] at II;exact wpAnyH_all II.1.1 sP (hb n true listed a w hB h)
variable {a:Act}{w:w9}{i:Nat}
def ur0 {id:Nat}(S:World->Prop)(l:Pm)(hm:P.follows .mixedOrders=true)(hs:Region.noSelect ops=true)(hB:oD .any ops l ops.size true (Array.replicate ops.size false)=true)
  (hQ:∀ c a d v w,Q (.panic c) (Act.put a d v) w->Q (.panic c) a w) (hS:S w.drew) (h:oC P .any ops Q S l a w.drew):(Code.region id ops true).wp P Q a w:=
 wp_region_any hm (wpAny_of_held (S:=S) _ _ _ _ ((Od hs hQ l).1 _ _ _ _ hB hS h))
def zR0 (h:Q .normal a w):oC P md ops Q S .done a w:=h
variable {p:Pm}
def YZ (o:Oper)(v:Value)(ho:ops[i]?=some o)(hw:Region.wanted o (yielded ops a.tmps)=true)(hr:∀ w,S w->(execOp a.eval o).run P w = .ok (.value v) w)(h:oC P md ops Q S p (a.put o.dst v) w):oC P md ops Q S (.rd i p) a w:=
 ⟨v,o,ho,.inl ⟨hw,hr⟩,h⟩
def Mh {r:Pm}(o:Oper)(ho:ops[i]?=some o)(hw:Region.wanted o (yielded ops a.tmps)=true)
  (h:∀ K:Act->World->Prop,(∀ a' w',S w'->oC P md ops Q S p a' w'->K a' w')->Oper.wp P o a w K Q) (hr:oC P md ops Q S r a w):oC P md ops Q S (.alt i p r) a w:=
 ⟨tU0 o ho hw fun K hK=>h K fun a' w' h1 h2=>hK a' w' ⟨h1,h2⟩,hr⟩
def Mt (tl:Pm):Nat->List Nat->List Nat->Pm
 | 0,_,_=>tl
 | n+1,cs,ls =>
  let r:=match ls with
   | [x,y]=>.alt x (Mt tl n cs [y]) (.alt y (Mt tl n cs [x]) .nil)
   | [x]=>.alt x (Mt tl n cs []) .nil
   | _=>.nil
  match cs with
  | c :: cs'=>.alt c (Mt tl n cs' ls) r
  | []=>r
def Mg:oC P md ops Q S .nil a w:=trivial
