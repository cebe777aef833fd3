/- A pack of texts. Conditions: those that each names. -/
import Derived.Test.YtgdhaaokolfdoaaGreatDoorNBG
set_option maxHeartbeats 16000000
set_option maxRecDepth 100000
set_option linter.all false
namespace Go.Proofs.YtgdhaaokolfdoaaGreatDoor
open Go.RowKit Go.Sg CP SF Tryz
def bN (d q:Nat)(x:Bt):Bool:=decide (X0 x.hash (d+1)=q)
def BN (a b:Nat):((a:Int) == (b:Int))=decide (a=b):=by
 by_cases h:a=b
 .subst h;simp
 .have:¬ (a:Int)=(b:Int):=by omega
  simp[h,this]
def NG (w1:w9)(b5:Nat)(d q:Nat)(fs:List Bt)(wr:w9):Prop:=
 ∃ a c,wr.heap[b5]?=some (.cells #[iI ((d:Int)+1),iI (q:Int),sL a fs.length c] 220)/\t8 wr w1.heap.size (sL a fs.length c) fs/\Fr (fun b=>b=b5) w1 wr
variable {W' w wr:w9}{c e g k m z:Nat}{es l:List Bt}{a:Option Addr}{v:Value}
def BI0 {w1:w9}{d q:Nat}{c4:Array Value}(hs:w1.heap.size=z+3)(hF:Fr (fun b=>b=z+2) w1 wr)(h4:w1.heap[z+1]?=some (.cells c4 220))(hz:w.heap.size=z)(hw:Fq w w1)(hO:t8 wr w1.heap.size (.slice a ((es.take k).filter (bN d q)).length c) ((es.take k).filter (bN d q)))(hm:((es.take k).filter (bN d q)).length=m)(Z3:es.take k=es)
  (h5:wr.heap[z+1+1]?=some (.cells #[iI ((d:Int)+1),iI (q:Int),sL a m c] 220)) (hW:((wr.setCell (aA (z+1) 0) (iI ((d:Int)+1))).setCell (aA (z+1) 1) (iI (q:Int))).setCell (aA (z+1) 2) (sL a m c)=W') :
  wI ((d:Int)+1) q (es.filter (bN d q)) w (rT (gH ((d:Int)+1) q (sL a m c))) W':=by
 subst hm;rw[Z3] at hO hW ⊢;have F:Fr (fun b=>b=z+1) wr W':=by
  rw[<- hW];with_reducible (repeat (first|exact fR|refine Fr.setCell ?_ (fun _=>by simp) _))
 refine⟨a,c,rfl,K3 (ao hO oM) F fun g c' hg e=>?_,(hw.trans hF fun b hb e=>oM).trans F fun b hb e=>oM⟩;rw[e,hF.heap h4 oM] at hg;cases hg
def mX0 (hE:t8 w 0 v es)(hl:es.length<=65535)(d p bit:Nat)(hd:d<=20)(hp:p<=65535)(xn:bit<=1)(hh:∀ x ∈ es,x.hash<18446744073709551616) :
  cP 211 #[gH d p v,iI bit] w (wI ((d:Int)+1) ((2*p+bit:Nat):Int) (es.filter (bN d (2*p+bit))) w):=by
 obtain⟨va,vc,rfl,-,-,-,-⟩:=A2 hE;obtain⟨n,hn⟩:=eX es.length
 obtain⟨q,hq⟩:=eX (2*p+bit)
 obtain⟨w1,I0⟩:=eX (((w.alloc (.cells #[iI d,iI p,sL va n vc] 220)).alloc (.cells #[iI 0,iI 0,sL none 0 0] 220)).alloc (.cells #[iI ((d:Int)+1),iI (q:Int),sL none 0 0] 220))
 obtain⟨b0,b4,b5,F1⟩:=nC I0;obtain⟨z,hz⟩:=eX w.heap.size
 rw[hz] at b0 b4 b5;have Z5:=oN hE F1;have E3:w1.heap.size=z+3:=by rw[<- I0,<- hz];simp
 rw[hn] at Z5 hl ⊢;rw[hq];have av:wrap64 ((d:Int)+1)=(d:Int)+1:=by simp only[wrap64];omega
 have ic:IntKind.i64.wrap ((d:Int)+1)=(d:Int)+1:=by rw[IntKind.wrap_i64];omega
 have mU:wrap64 (2*(p:Int))=2*(p:Int):=by simp only[wrap64];omega
 have zW:wrap64 (2*(p:Int)+(bit:Int))=(q:Int):=by simp only[wrap64];omega
 have HE:=hid Z5;have HN:=hid hn;have HF:=hid F1;have HW:=hid I0;have HS:=hid E3;have HB:=hi2 b0 (aI b4 b5);have HZ:=hid hz;have HH:=hid hh;have HQ:=hid hq;obtain⟨i0,A3,J1,M1,O1⟩:=info_parts ny;have AX:=hi2 A3 (aI J1 (aI M1 O1));clear hE Z5 hn F1 I0 b0 b4 b5 E3 hh hq A3 J1 M1 O1 hp xn;go_enter func211,ntmps211;go_upto_region 2 with fail
 try simp only[mU,zW]
 rw[HW];try simp only[HZ.o]
 go_wp2_with fail
 go_loopw [6] (fun i wr=>∃ k:Nat,k<=n/\i = iI k/\NG w1 (z+2) d q ((es.take k).filter (bN d q)) wr) fun i _=>n-(intOf i).toNat
 case atStart=>exact⟨0,C3 _,rfl,none,0,HB.2.2,World.ownsRow_nil _ _ _ _,fR⟩
 case round =>
  obtain⟨k,hk,rfl,a,c,h5,hO,hF⟩:=hrel;have XA:¬ z=z+2:=oM
  have n45:¬ z+1=z+2:=oM
  obtain⟨x0,x1,x2,xz,xl⟩:=cells3 (hF.heap HB.1 XA);obtain⟨y0,y1,y2,yz,yl⟩:=cells3 h5;have O9:=K3 HE.o hF (fun g c' hg e=>by rw[e,HB.2.2] at hg;cases hg);have HI:=hi2 h5 (aI hO hF);by_cases hlt:k<n
  .have hdk:decide ((k:Int)<(n:Int))=true:=by simp;omega
   have cF:(k:Int)<(n:Int):=oM
   have fL:wrap64 ((k:Int)+1)=((k+1:Nat):Int):=rY oM;obtain⟨x,hx⟩:∃ x,es[k]?=some x:=⟨_,gE (by rw[HN.o];exact hlt)⟩
   obtain⟨g,rfl,hg,c0,c1,c2,c3⟩:=qO O9 hx;have mi:=hid (WF hx (bN d q));have Eu:=hid (fun V=>(show cP 189 #[iU x.hash,iI ((d:Int)+1)] V fun e w'=>e = rT (iI (X0 x.hash (d+1)))/\Fq V w' from by
    have:=uj0 x.hash (d+1) (HH x (gM hx)) oM V;rw[show ((d+1:Nat):Int)=(d:Int)+1 from by push_cast;rfl] at this;exact this))
   have bu:=hF;have HXc:=hid fun (V1 V:w9) (F:Fq wr V1) (h:V.heap[g]?=V1.heap[g]?)=>aI ((World.cell?_of_block (a:=⟨g,k*4+1,none⟩) h).trans ((F.cell (p:=⟨g,k*4+1,none⟩) hg id).trans c1)) (aI ((World.cell?_of_block (a:=⟨g,k*4+2,none⟩) h).trans ((F.cell (p:=⟨g,k*4+2,none⟩) hg id).trans c2)) ((World.cell?_of_block (a:=⟨g,k*4+3,none⟩) h).trans ((F.cell (p:=⟨g,k*4+3,none⟩) hg id).trans c3)));clear h5 hO hF hx O9;have HC:=hid fun V (F:Fq wr V)=>aI (cells3 (F.heap (bu.heap HB.1 XA) id)) (aI (cells3 (F.heap HI.1 id)) (aI ((F.cell (p:=⟨g,k*4,none⟩) hg id).trans c0) (E4 hg F.size)));have FD:=(Fr.refl (fun _=>False) wr).drew;go_upto_region 5 with fail
   clear x0 x1 x2 y0 y1 y2 c0 c1 c2 c3 bu;refine wp_region_noPanic ?_;refine q8 (fun V=>Fq wr V) (.rd 0 (.rd 1 (.rd 2 (.rd 3 (.rd 4 (.rd 5 (.rd 6 (.rd 7 (.rd 8 (.rd 10 (.rd 11 (.op 9 (.rd 12 .done))))))))))))) kF kF kF (fun _ _ _ _ _ h=>h) FD ?_;iterate 11
    refine oP ?_ ?_ ?_;rotate_left
    .intro V hV;obtain⟨⟨x0,x1,x2,xz,xl⟩,⟨y0,y1,y2,yz,yl⟩,e0,eg⟩:=HC.o V hV;go_simp;try with_reducible rfl
   refine rQ fun K hK=>?_
   (with_reducible refine (Eu.o _).mono ?_)
   rintro _ V1 ⟨rfl,G1⟩;have F1:=FD.trans G1 nI;refine hK _ _ F1 ?_;clear hK K;refine oR ?_
   refine o5 ?_;refine NoPanic.normal ?_;try simp only[Act.put,sI,sZ,sS]
   have bH:=hid F1;have Sh:=hid fL;clear fL av ic mU zW;have cO:=hid (oN HI.2.1 F1);have H5:=hid (show V1.heap[z+1+1]?=some (.cells #[iI ((d:Int)+1),iI (q:Int),.slice a ((es.take k).filter (bN d q)).length c] 220) from F1.heap HI.1 id);obtain⟨m,hm⟩:=eX (((es.take k).filter (bN d q)).length)
   have rf:m<=65535:=by rw[<- hm];exact nT (mY _ _) (by rw[lT];omega)
   have HM:=hid hm;have jp:=hid (show V1.ownsRow w1 110 4 (sL a m c) m (((es.take k).filter (bN d q)).flatMap Q1) by have:=cO.o;unfold t8 at this;rw[hm] at this;exact this);rw[hm] at H5;have HG:=hid (show w1.heap.size<=V1.heap.size from nT HI.2.2.size F1.size);clear hm G1;cases hfx:bN d q x with
   | false =>
    have gm:(((X0 x.hash (d+1):Nat):Int) == ((q:Nat):Int))=false:=(by rw[BN];exact hfx);have bE:=hid hfx;have GZ:=hid (show NG w1 (z+2) d q ((es.take (k+1)).filter (bN d q)) V1 by
     rw[mi,if_neg (by rw[hfx];decide)];exact⟨a,c,F1.heap HI.1 id,cO.o,HI.2.2.trans F1 nE⟩)
    clear hfx F1 FD;have fL:=Sh.o;go_wp2_with fail
    go_roundw;case rel=>exact⟨k+1,hlt,by go_num,GZ.o⟩
    case measure=>exact wM
   | true =>
    have gm:(((X0 x.hash (d+1):Nat):Int) == ((q:Nat):Int))=true:=(by rw[BN];exact hfx);have bE:=hid hfx;obtain⟨⟨x0,x1,x2,xz,xl⟩,⟨y0,y1,y2,yz,yl⟩,e0,eg⟩:=HC.o V1 F1;have xQ:V1.heap[z]?=some (.cells #[iI d,iI p,sL g n vc] 220):=F1.heap (HI.2.2.heap HB.1 XA) id;obtain⟨g',eg',JW,La⟩:∃ g',(some (⟨g,0,none⟩:Addr))=some ⟨g',0,none⟩/\g'<w1.heap.size/\True:=⟨g,rfl,by
     obtain⟨_,_,e1,-,-,-,e2⟩:=A2 HE.o;injection e1 with e1 _ _
     obtain⟨g2,e3,e4⟩:=e2 _ e1.symm;cases e3;exact e4,trivial⟩
    cases eg';obtain⟨cg,ib⟩:∃ cg,w1.heap[g]?=some (.cells cg 110):=by
     obtain⟨_,⟨h1,_⟩|⟨g2,cap2,R5,h1,_,h3,_⟩⟩:=HE.o
     .cases h1
     .cases h1;exact⟨R5,h3⟩
    have cD:V1.heap[g]?=some (.cells cg 110):=F1.heap (HI.2.2.heap ib fun e=>by rw[e,HB.2.2] at ib;cases ib) id;have qG:=hi2 xQ cD;have ZO:=hid (show g≠z+1+1 from fun e=>by rw[e,HB.2.2] at ib;cases ib);have Ei:=hid JW;have jS:=HS;have Hf:=hid fun V (F:Fq V1 V)=>aI (F.heap xQ id) (F.heap cD id);have HXC:=hid fun V (h:V.heap[g]?=some (.cells cg 110))=>aI ((World.cell?_of_block (a:=⟨g,k*4,none⟩) (h.trans cD.symm)).trans e0) (aI (HXc V1 V F1 (h.trans cD.symm)) (M0 h));obtain⟨A3,J1,M1,O1⟩:=AX.o;clear hfx xQ ib cD JW La e0 eg;go_upto_region 6 with fail
    clear x0 x1 x2 y0 y1 y2 xz xl yz yl;refine wp_region_noPanic ?_;refine q8 (fun V=>V.heap[z]?=some (.cells #[iI d,iI p,sL g n vc] 220)/\V.heap[g]?=some (.cells cg 110)) (.rd 0 (.rd 2 (.rd 3 (.rd 4 (.rd 5 (.rd 6 (.two 1 7 (.op 7 (.op 8 (.rd 9 (.op 10 .done)))) (.op 1 (.op 8 (.rd 9 (.op 10 .done))))))))))) kF kF kF (fun _ _ _ _ _ h=>h) (Hf _ fR.drew) ?_;iterate 6
     refine oP ?_ ?_ ?_;rotate_left
     .intro V hV;obtain⟨x0,x1,x2,xz,xl⟩:=cells3 hV.1;obtain⟨e0,⟨e1,e2,e3⟩,eg⟩:=HXC.o V hV.2;go_simp;try with_reducible rfl
    refine mu ?_ ?_
    .have Gt:=(Fr.refl (fun _=>False) V1).drew;refine rP fun K hK=>?_;obtain⟨y0,y1,y2,yz,yl⟩:=cells3 (Gt.heap H5.o id);go_simp;refine hK _ _ (Hf _ Gt) ?_;clear hK K y0 y1 y2 yz yl;refine rQ fun K hK=>?_;have cG:=han V1 (.cells #[iU x.hash,iI x.rg,iI x.at_,iI x.sz] 110);have FV:=((Fr.refl (fun _=>False) V1).alloc (.cells #[iU x.hash,iI x.rg,iI x.at_,iI x.sz] 110)).drew;obtain⟨V2,K5⟩:=eX ((V1.alloc (.cells #[iU x.hash,iI x.rg,iI x.at_,iI x.sz] 110)).drew)
     replace cG:V2.heap[V1.heap.size]?=some (.cells #[iU x.hash,iI x.rg,iI x.at_,iI x.sz] 110):=by rw[<- K5];exact cG
     rw[K5] at FV ⊢;refine hK _ _ (Hf _ FV) ?_;clear hK K;refine rP fun K hK=>?_;refine yZ rfl (.tmp 37) (.tmp 43) 218 rfl w1.heap.size 110 i0 _ 4 32 underlying218 A3 J1 M1 O1 rfl dC (sL a m c) m _ rfl (oN jp.o FV) ⟨V1,0,none⟩ 1 1 (Q1 x) rfl (World.news_of_block cG) rfl (by simp[Value.oneCell']) (by simp only[maxLen];omega) oM (by have:=FV.size;have:=HG.o;omega) ?_;intro v3 V3 K0 Q3 rj;obtain⟨a3,c3,rfl,-,-,-,-⟩:=A2 K0;have C9:Fr (fun b=>(sL a m c).ownBlock=some b) V1 V3:=(FV.mono nE).trans (qK Q3) nI;have wX:=C9.heap H5.o (fun e=>by obtain⟨-,c',hc'⟩:=jW jp.o e;rw[H5] at hc';cases hc');refine hK _ _ ⟨C9.heap qG.1 (fun e=>by obtain⟨-,c',hc'⟩:=jW jp.o e;rw[qG.1] at hc';cases hc'),C9.heap qG.2 fun e=>by have:=(jW jp.o e).1;have:=Ei.o;omega⟩ ?_;clear hK K;refine oR ?_
     refine rP fun K hK=>?_;obtain⟨y0,y1,y2,yz,yl⟩:=cells3 wX;go_simp;obtain⟨V4,O4⟩:=eX (V3.setCell (aA (z+1+1) 2) (sL a3 (m+1) c3))
     rw[O4];have Q5:Fr (fun b=>b=z+1+1) V3 V4:=(by rw[<- O4];exact Iu _ _ _ _);have IG:V4.heap[z+1+1]?=some (.cells #[iI ((d:Int)+1),iI (q:Int),sL a3 (m+1) c3] 220):=(by rw[<- O4,hsc _ _ _ _ wX];rfl);refine hK _ _ ⟨Q5.heap (C9.heap qG.1 fun e=>by obtain⟨-,c',hc'⟩:=jW jp.o e;rw[qG.1] at hc';cases hc') oM,Q5.heap (C9.heap qG.2 fun e=>by have:=(jW jp.o e).1;have:=Ei.o;omega) (by have:=Ei.o;have:=jS.o;have:=ZO.o;omega)⟩ ?_;clear hK K;refine o5 ?_;refine NoPanic.normal ?_;try simp only[Act.put,sI,sZ,sS]
     have KO:NG w1 (z+2) d q ((es.take (k+1)).filter (bN d q)) V4:=by
      rw[mi,if_pos bE.o];refine⟨a3,c3,by rw[lA,HM];exact IG,?_,HI.2.2.trans ((bH.mono nE).trans ((C9.mono fun b _ e=>.inr e).trans Q5 (S:=fun b=>b=z+1+1\/(sL a m c).ownBlock=some b) fun _ _ h=>.inl h) nI) fun b hb e=>?_⟩
      .unfold t8;rw[lA,dY,HM];refine K3 ?_ Q5 (fun g' c' I1 e=>by rw[e,wX] at I1;cases I1);simpa using K0
      .rcases e with e|e
       .exact e
       .have:=(jW jp.o e).1;omega
     have GZ:=hid KO;clear KO K0 Q3 rj C9 wX Q5 IG O4 K5 cG FV Gt F1 FD gm;rename_i hcond;clear hcond y0 y1 y2 yz yl A3 J1 M1 O1 rf xz xl hg;have fL:=Sh.o;go_wp2_with fail
     go_roundw;case rel=>exact⟨k+1,hlt,by go_num,GZ.o⟩
     case measure=>exact wM
    .have Gt:=(Fr.refl (fun _=>False) V1).drew;refine rQ fun K hK=>?_;have cG:=han V1 (.cells #[iU x.hash,iI x.rg,iI x.at_,iI x.sz] 110);have FV:=((Fr.refl (fun _=>False) V1).alloc (.cells #[iU x.hash,iI x.rg,iI x.at_,iI x.sz] 110)).drew;obtain⟨V2,K5⟩:=eX ((V1.alloc (.cells #[iU x.hash,iI x.rg,iI x.at_,iI x.sz] 110)).drew)
     replace cG:V2.heap[V1.heap.size]?=some (.cells #[iU x.hash,iI x.rg,iI x.at_,iI x.sz] 110):=by rw[<- K5];exact cG
     rw[K5] at FV ⊢;refine hK _ _ (Hf _ FV) ?_;clear hK K;refine rP fun K hK=>?_;obtain⟨y0,y1,y2,yz,yl⟩:=cells3 (FV.heap H5.o id);go_simp;refine hK _ _ (Hf _ FV) ?_;clear hK K y0 y1 y2 yz yl;refine rP fun K hK=>?_;refine yZ rfl (.tmp 37) (.tmp 43) 218 rfl w1.heap.size 110 i0 _ 4 32 underlying218 A3 J1 M1 O1 rfl dC (sL a m c) m _ rfl (oN jp.o FV) ⟨V1,0,none⟩ 1 1 (Q1 x) rfl (World.news_of_block cG) rfl (by simp[Value.oneCell']) (by simp only[maxLen];omega) oM (by have:=FV.size;have:=HG.o;omega) ?_;intro v3 V3 K0 Q3 rj;obtain⟨a3,c3,rfl,-,-,-,-⟩:=A2 K0;have C9:Fr (fun b=>(sL a m c).ownBlock=some b) V1 V3:=(FV.mono nE).trans (qK Q3) nI;have wX:=C9.heap H5.o (fun e=>by obtain⟨-,c',hc'⟩:=jW jp.o e;rw[H5] at hc';cases hc');refine hK _ _ ⟨C9.heap qG.1 (fun e=>by obtain⟨-,c',hc'⟩:=jW jp.o e;rw[qG.1] at hc';cases hc'),C9.heap qG.2 fun e=>by have:=(jW jp.o e).1;have:=Ei.o;omega⟩ ?_;clear hK K;refine oR ?_
     refine rP fun K hK=>?_;obtain⟨y0,y1,y2,yz,yl⟩:=cells3 wX;go_simp;obtain⟨V4,O4⟩:=eX (V3.setCell (aA (z+1+1) 2) (sL a3 (m+1) c3))
     rw[O4];have Q5:Fr (fun b=>b=z+1+1) V3 V4:=(by rw[<- O4];exact Iu _ _ _ _);have IG:V4.heap[z+1+1]?=some (.cells #[iI ((d:Int)+1),iI (q:Int),sL a3 (m+1) c3] 220):=(by rw[<- O4,hsc _ _ _ _ wX];rfl);refine hK _ _ ⟨Q5.heap (C9.heap qG.1 fun e=>by obtain⟨-,c',hc'⟩:=jW jp.o e;rw[qG.1] at hc';cases hc') oM,Q5.heap (C9.heap qG.2 fun e=>by have:=(jW jp.o e).1;have:=Ei.o;omega) (by have:=Ei.o;have:=jS.o;have:=ZO.o;omega)⟩ ?_;clear hK K;refine o5 ?_;refine NoPanic.normal ?_;try simp only[Act.put,sI,sZ,sS]
     have KO:NG w1 (z+2) d q ((es.take (k+1)).filter (bN d q)) V4:=by
      rw[mi,if_pos bE.o];refine⟨a3,c3,by rw[lA,HM];exact IG,?_,HI.2.2.trans ((bH.mono nE).trans ((C9.mono fun b _ e=>.inr e).trans Q5 (S:=fun b=>b=z+1+1\/(sL a m c).ownBlock=some b) fun _ _ h=>.inl h) nI) fun b hb e=>?_⟩
      .unfold t8;rw[lA,dY,HM];refine K3 ?_ Q5 (fun g' c' I1 e=>by rw[e,wX] at I1;cases I1);simpa using K0
      .rcases e with e|e
       .exact e
       .have:=(jW jp.o e).1;omega
     have GZ:=hid KO;clear KO K0 Q3 rj C9 wX Q5 IG O4 K5 cG FV Gt F1 FD gm;rename_i hcond;clear hcond y0 y1 y2 yz yl A3 J1 M1 O1 rf xz xl hg;have fL:=Sh.o;go_wp2_with fail
     go_roundw;case rel=>exact⟨k+1,hlt,by go_num,GZ.o⟩
     case measure=>exact wM
  .obtain rfl:k=n:=by omega
   have hdk:decide ((k:Int)<(k:Int))=false:=by simp
   have Z3:es.take k=es:=tL (by rw[HN];exact nR _);obtain⟨u0,u1,u2,uz,ul⟩:=cells3 (hF.heap HB.2.1 n45);have hne:¬ z+1=z+1+1:=oM
   have bX:¬ z+1+1=z+1:=oM
   have hm:=HN.o;obtain⟨m,hm⟩:=eX ((es.filter (bN d q)).length)
   have EW:wr.heap[z+1+1]?=some (.cells #[iI ((d:Int)+1),iI (q:Int),sL a m c] 220):=by have:=HI.1;rw[Z3,hm] at this;exact this
   have HR:=hid (fun W' Cj=>BI0 (W':=W') HS.o hF HB.2.1 HZ.o HF.o HI.2.1 (by rw[Z3];exact hm) Z3 EW Cj);obtain⟨v0,v1,v2,vz,vl⟩:=cells3 EW;clear h5 hO hF Z3 hm EW y0 y1 y2 yz yl av ic mU zW;go_wp2_with fail
   refine bodyPost_ret (v:=gH ((d:Int)+1) q (sL a m c)) sR rfl ?_;exact HR _ rfl
def LT:∀ u ∈ l.flatMap Q1,u.oneCell'=true:=by
 intro u hu;obtain⟨x,_,hx⟩:=ui.1 hu;simp[Q1] at hx;rcases hx with rfl|rfl|rfl|rfl <;> rfl
def wb0 {base:Nat}(h:w.ownsRow base e 4 (sL g l.length c) l.length (l.flatMap Q1))(hk:k<l.length)(x:Bt) :
  ((((w.setCell (aA g (k*4)) (iU x.hash)).setCell (aA g (k*4+1)) (iI x.rg)).setCell (aA g (k*4+2)) (iI x.at_)).setCell (aA g (k*4+3)) (iI x.sz)).ownsRow base e 4 (.slice g (l.set k x).length c) (l.set k x).length ((l.set k x).flatMap Q1):=by
 obtain⟨hl,⟨h0,h1⟩|⟨g',cap,cur,hv,hb,hg,hc,hm,hs,ht⟩⟩:=h
 .cases h0
 .cases hv;refine⟨by rw[jX],.inr ⟨g,c,(((cur.setIfInBounds (k*4) (iU x.hash)).setIfInBounds (k*4+1) (iI x.rg)).setIfInBounds (k*4+2) (iI x.at_)).setIfInBounds (k*4+3) (iI x.sz),by rw[fj],hb,?_,by rw[fj];exact hc,hm,by simpa using hs,?_⟩⟩
  .rw[hsc _ _ _ _ (hsc _ _ _ _ (hsc _ _ _ _ (hsc _ _ _ _ hg)))]
  .rw[xN0 l k x hk,fj,<- ht];simp only[Xy,List.take_set]
def Yf {W:w9}{B size:Nat}(hB:B<=g)(h:W.heap[g]?=some (.cells #[] e)):W.ownsRow B e size (sL g 0 0) 0 []:=
 ⟨by simp,.inr ⟨g,0,#[],rfl,hB,h,nR _,C3 _,by simp,by simp⟩⟩
def qX0 {h:Nat}(hs:m9 es):mx es h=if hasB es h=true then ((co es h:Nat):Int) else -1:=by
 split
 .rename_i hh;obtain⟨x,hx,he⟩:=(uS hs).1 hh;exact oC0 hx he fun j y hj hy=>by have:=(DF hs hy).1 hj;omega
 .rename_i hh;exact oD0 fun j y _ hy e=>hh (vK.2 ⟨y,gM hy,by simpa using e⟩)
def Di0 (a:Option Addr)(n c m:Nat)(h:m<=c)(W:w9):(Instr.slice 218 (sL a n c) none (some (iI m)) none).run prog W = .ok (sL a m c) W:=Oq 218 4 kF (fun W=>by kernel_rfl) a n c m h W
def ym0 {d p:Int}{c0 c2:Array Value}(hz:w.heap.size=z)(hF:Fq w wr)(h0:wr.heap[z]?=some (.cells c0 220))(h2:wr.heap[z+1+1]?=some (.cells c2 220))(hO:t8 wr z (sL a es.length c) es)(hm:es.length=m)
  (hW:(((wr.setCell (aA z 2) (sL a m c)).setCell (aA (z+1+1) 0) (iI d)).setCell (aA (z+1+1) 1) (iI p)).setCell (aA (z+1+1) 2) (sL a m c)=W') :
  wI d p es w (rT (gH d p (sL a m c))) W':=by
 subst hm;have F:Fr (fun b=>b=z\/b=z+1+1) wr W':=by
  rw[<- hW];with_reducible (repeat (first|exact fR|refine Fr.setCell ?_ (fun _=>by simp) _))
 refine⟨a,c,rfl,K3 (ao hO oM) F fun g c' hg e=>?_,hF.trans F fun b hb e=>oM⟩;rcases e with e|e
 .rw[e,h0] at hg;cases hg
 .rw[e,h2] at hg;cases hg
def zJ0 (hE:t8 w 0 v es)(hs:m9 es)(hl:es.length<=65000)(d p:Int)(x:Bt) :
  cP 209 #[gH d p v,E8 x] w (wI d p (r5 es x) w):=by
 obtain⟨va,vc,rfl,-,-,-,-⟩:=A2 hE;obtain⟨n,hn⟩:=eX es.length
 obtain⟨w1,I0⟩:=eX (((w.alloc (.cells #[iI d,iI p,sL va n vc] 220)).alloc (.cells #[iU x.hash,iI x.rg,iI x.at_,iI x.sz] 110)).alloc (.cells #[iI 0,iI 0,sL none 0 0] 220))
 obtain⟨b0,b1,b2,F1⟩:=nC I0;obtain⟨z,hz⟩:=eX w.heap.size
 rw[hz] at b0 b1 b2;have Z5:=oN hE F1;have E3:w1.heap.size=z+3:=by rw[<- I0,<- hz];simp
 rw[hn] at Z5 hl ⊢;obtain⟨q,hq⟩:=eX (co es x.hash)
 have ah:q<=n:=by rw[<- hq,<- hn];exact QH _ _
 have HC:=hid fun V (F:Fq w1 V)=>aI (cells3 (F.heap b0 id)) (aI (D8 (F.heap b1 id)) (cells3 (F.heap b2 id)));have HE:=hid Z5;have HN:=hid hn;have HF:=hid F1;have HW:=hid I0;have HS:=hid E3;have HB:=hi2 b0 (aI b1 b2);have HZ:=hid hz;have jT:=hid hs;have HQ:=hid hq;have Eg:=hid (qX0 (h:=x.hash) hs);obtain⟨i0,A3,J1,M1,O1⟩:=info_parts ny;obtain⟨⟨x0,x1,x2,xz,xl⟩,⟨t0,t1,t2,t3,tz,tl⟩,⟨y0,y1,y2,yz,yl⟩⟩:=HC.o _ fR;clear hE Z5 hn F1 I0 b0 b1 b2 E3 hq hs hz;go_enter func209,ntmps209;go_upto_region 1 with fail
 rw[HW];try simp only[HZ.o]
 go_wp2_with (at_builtin;refine mq rfl (.tmp 9) (.tmp 11) 218 rfl w1.heap.size 110 i0 _ 4 32 underlying218 A3 J1 M1 O1 rfl dC _ _ _ rfl (IA _ _ (nR _) _ _ _ (by simp[go_sem])) (sL va n vc) n (es.flatMap Q1) rfl (wT (oN HE.o (fR.alloc (.cells #[] 110)))) (by rw[jX,HN]) LT (by simp only[maxLen];omega) oM sP ?_)
 intro v3 W3 K0 Q3 mT;try simp only[C7,o8] at K0
 obtain⟨a3,c3,rfl,xG,-,-,-⟩:=A2 K0;have F3:Fq w1 W3:=((Fr.refl (fun b=>b=w1.heap.size) _).alloc _).trans (Fr.of_grownBy Q3) (fun b _ h=>h) |>.mono fun b hb h=>oM
 have ve:t8 W3 w1.heap.size (sL a3 n c3) es:=by unfold t8;rw[HN];exact K0
 have H3:=hi2 ve F3;have Bg:=hid (OM (v:=sL va n vc) (es:=es) (w:=W3) (by unfold t8;rw[HN];exact oN HE.o F3) (by rw[HN];omega) d p x.hash);clear K0 Q3 mT F3 x0 x1 x2 xz xl t0 t1 t2 t3 tz tl y0 y1 y2 yz yl ve;obtain⟨⟨x0,x1,x2,xz,xl⟩,⟨t0,t1,t2,t3,tz,tl⟩,⟨y0,y1,y2,yz,yl⟩⟩:=HC.o _ H3.2;go_wp2_with fail
 (with_reducible refine Bg.o.mono ?_)
 rintro _ W4 ⟨rfl,F4⟩;have MS:=H3.2.trans F4 nI;have H4:=hi2 (show t8 W4 w1.heap.size (sL a3 es.length c3) es by rw[HN];exact oN H3.1 F4) MS;have Pw:Fq w1 W4:=MS;have Sn:=hid MS.size;have HD:=hid fun V (F:Fq W4 V)=>HC V (H4.2.trans F nI);clear F4 MS Pw x0 x1 x2 xz xl t0 t1 t2 t3 tz tl y0 y1 y2 yz yl;obtain⟨⟨x0,x1,x2,xz,xl⟩,⟨t0,t1,t2,t3,tz,tl⟩,⟨y0,y1,y2,yz,yl⟩⟩:=HD.o _ fR;cases hhb:hasB es x.hash with
 | true =>
  have lD:mx es x.hash=(q:Int):=by rw[Eg,if_pos hhb,HQ]
  rw[lD];have cE:decide ((q:Int)≥0)=true:=by simp
  obtain⟨y,hy,-⟩:=(uS jT.o).1 hhb;rw[HQ] at hy;have ah:q<n:=by rw[<- HN];exact (gI.1 hy).1
  obtain⟨g,rfl,hg,u0,u1,u2,u3⟩:=qO H4.1 hy;have bz:w1<=g:=(jW H4.1 rfl).1;have hP:r5 es x=es.set q x:=by unfold r5;rw[hhb,if_pos rfl,HQ]
  have JX:∀ o,W4.frozen? ⟨g,o,none⟩=false:=by
   obtain⟨-,c,hc⟩:=jW H4.1 rfl;exact fun o=>X2 hc o
  have zY:(q:Int)<(n:Int):=oM
  have vm:g≠z:=by have:=HS.o;omega
  have cD:g≠z+1:=by have:=HS.o;omega
  have db:g≠z+1+1:=by have:=HS.o;omega
  have HP:=hid hP;have RX:=hid bz;have ml:=hid (wb0 H4.1 (by rw[HN];exact ah) x);clear hP hy bz hhb lD;go_upto_region 5 with fail
  obtain⟨W5,iP⟩:=eX ((((W4.setCell (aA g (q*4)) (iU x.hash)).setCell (aA g (q*4+1)) (iI x.rg)).setCell (aA g (q*4+2)) (iI x.at_)).setCell (aA g (q*4+3)) (iI x.sz))
  rw[iP] at ml ⊢;have F5:Fr (fun b=>b=g) W4 W5:=by
   rw[<- iP];with_reducible (repeat (first|exact fR|refine Fr.setCell ?_ (fun _=>by simp) _))
  have jo:Fq w1 W5:=H4.2.trans F5 (fun b hb e=>by have:=RX.o;omega);have H5:=hid jo;clear F5 iP u0 u1 u2 u3 JX x0 x1 x2 xz xl t0 t1 t2 t3 tz tl y0 y1 y2 yz yl;obtain⟨⟨x0,x1,x2,xz,xl⟩,⟨t0,t1,t2,t3,tz,tl⟩,⟨y0,y1,y2,yz,yl⟩⟩:=HC.o _ H5.o;clear jo t0 t1 t2 t3 tz tl;go_wp2_with fail
  refine bodyPost_ret (v:=gH d p (sL g n c3)) sR rfl ?_;rw[HP];exact ym0 HZ.o (HF.trans H5.o nI) (H5.heap HB.1 id) (H5.heap HB.2.2 id) (ao (by simpa[HN.o] using ml.o) (by have:=HS.o;omega)) (by rw[fj,HN]) rfl
 | false =>
  have lD:mx es x.hash = -1:=by rw[Eg,hhb];rfl
  rw[lD];have cE:decide ((-1:Int)≥0)=false:=dC
  have hP:r5 es x=fi es q x:=by unfold r5;rw[hhb,if_neg dC,HQ]
  have HP:=hid hP;clear hP lD hhb;go_wp2_with fail
  clear x0 x1 x2 xz xl t0 t1 t2 t3 tz tl y0 y1 y2 yz yl;go_loopw [7] (fun i wr=>∃ k:Nat,k<=q/\i = iI k/\Fq W4 wr) fun i _=>n-(intOf i).toNat
  case atStart=>exact⟨0,C3 _,rfl,fR⟩
  case round =>
   obtain⟨k,hk,rfl,hF⟩:=hrel;have gL:=hid hF;by_cases hlt:k<q
   .have L8:k<n:=oM;have hd:decide ((k:Int)<(n:Int))=true:=sO;have cF:(k:Int)<(n:Int):=oM;have fL:wrap64 ((k:Int)+1)=((k+1:Nat):Int):=rY oM;obtain⟨y,hy⟩:∃ y,es[k]?=some y:=⟨_,gE (by rw[HN.o];exact L8)⟩
    have hls:decide (y.hash<x.hash)=true:=decide_eq_true ((DF jT.o hy).1 (by rw[HQ];exact hlt));obtain⟨g,rfl,hg,c0,-⟩:=qO (oN H4.1 hF) hy;obtain⟨-,⟨t0,t1,t2,t3,tz,tl⟩,-⟩:=HD.o _ hF;clear hy hF;go_upto_region 8 with fail
    go_quiet (fail)
    go_wp2_with fail
    go_roundw;case rel=>exact⟨k+1,hlt,by go_num,gL.drewN _⟩
    case measure=>exact wM
   .obtain rfl:k=q:=by omega
    have Wc:=Di0 a3 n c3 k oM;obtain⟨a2,tt,hF2⟩:∃ a2:Option Addr,(∀ W,(Instr.slice 218 (sL a3 n c3) (some (iI k)) none none).run prog W = .ok (sL a2 (n-k) (c3-k)) W)/\∀ V,Fq W4 V->rx V (sL a2 (n-k) (c3-k)) (n-k) ((es.flatMap Q1).drop (k*4)):=⟨_,fun W=>Bu 218 4 kF (fun W=>by kernel_rfl) _ n c3 k oM W,fun V F=>by have:=gg0 (oN H4.1 F) k (by rw[HN.o];omega);rwa [HN.o] at this⟩
    have Y0:=hid hF2;clear hF2;have HT:=hid (fun V (F:Fq wr V)=>jK0 (oN H4.1 (gL.trans F nI)) k (by rw[HN];omega));have dE:=hid fun V (F:Fq wr V)=>HD V (gL.trans F nI);obtain⟨⟨x0,x1,x2,xz,xl⟩,⟨t0,t1,t2,t3,tz,tl⟩,-⟩:=HD.o _ hF;have hx:(k<n->∃ (g y:Nat),a3=some ⟨g,0,none⟩/\decide (y<x.hash)=false/\g<wr/\wr.cell? (aA g (k*4))=some (iU y)):=fun L8=>by
     obtain⟨y,hy⟩:∃ y,es[k]?=some y:=⟨_,gE (by rw[HN.o];exact L8)⟩
     obtain⟨g',e,hg,c0,-⟩:=qO (oN H4.1 hF) hy;exact⟨g',y.hash,e,decide_eq_false fun h=>by have:=(DF jT.o hy).2 h;rw[HQ] at this;omega,hg,c0⟩
    clear hF hlt;rcases jL k n with L8|L8
    focus
     obtain⟨g,y,rfl,hls,hg,c0⟩:=hx L8;have hd:decide ((k:Int)<(n:Int))=true:=sO;have cF:(k:Int)<(n:Int):=oM;go_upto_region 8 with fail
     go_quiet (fail)
     go_upto_region 10 with fail
    rotate_left;focus
     have hd:decide (k<n)=false:=decide_eq_false oM;clear hx L8;go_upto_region 8 with fail
     go_quiet (fail)
     go_upto_region 10 with fail
    all_goals
     obtain⟨wz,Lv⟩:=eX (wr.drewN nq)
     have fz:Fq wr wz:=(by rw[<- Lv];exact fR.drewN _);rw[Lv];replace HT:=hid fun V (F:Fq wz V)=>HT V (fz.trans F nI)
     replace dE:=hid fun V (F:Fq wz V)=>dE V (fz.trans F nI)
     have FZ:=hid (gL.trans fz nI);clear Lv fz x0 x1 x2 xz xl t0 t1 t2 t3 tz tl;refine wp_region_noPanic ?_;refine q8 (fun V=>Fq wz V) (.rd 1 (.rd 2 (.rd 3 (.rd 5 (.two 0 6 (.two 4 6 (.op 6 (.op 7 (.rd 8 .done))) (.op 4 (.op 7 (.rd 8 .done)))) (.op 0 (.op 4 (.op 7 (.rd 8 .done))))))))) kF kF kF (fun _ _ _ _ _ h=>h) fR.drew ?_;iterate 4
      refine oP ?_ ?_ ?_;rotate_left
      .intro V hV;obtain⟨-,⟨t0,t1,t2,t3,tz,tl⟩,-⟩:=dE.o V hV;go_simp;try with_reducible rfl
     refine mu ?_ ?_;focus
      refine rQ fun K hK=>?_;obtain⟨V0,sJ⟩:=eX ((wz.alloc (.cells #[] 110)).drew)
      have Ap:V0.heap[wz.heap.size]?=some (.cells #[] 110):=(by rw[<- sJ];exact han wz (.cells #[] 110));have po:Fq wz V0:=(by rw[<- sJ];exact (fR.alloc _).drew);rw[sJ];refine hK _ _ po ?_;clear hK K;refine mu ?_ ?_;focus
       refine rP fun K hK=>?_;refine Of rfl (.tmp 42) (.tmp 45) 218 rfl wz.heap.size 110 i0 _ 4 32 underlying218 A3 J1 M1 O1 rfl dC (sL wz 0 0) 0 [] rfl (Yf (nR _) Ap) _ k ((es.flatMap Q1).take (k*4)) rfl (HT _ po) (by rw[lT,jX,HN];omega) (fun u hu=>LT u (ov hu)) (by simp only[maxLen];omega) oM po.size ?_;intro v4 V4 af lE;simp only[C7,o8] at af;obtain⟨a4,c4,rfl,-,-,-,-⟩:=A2 af;have pr:Fq wz V4:=Qz po lE (nR _);refine hK _ _ pr ?_;clear hK K;refine rQ fun K hK=>?_;obtain⟨V6,lr⟩:=eX (V4.alloc (.cells #[iU x.hash,iI x.rg,iI x.at_,iI x.sz] 110))
       have yi:V6.heap[V4.heap.size]?=some (.cells #[iU x.hash,iI x.rg,iI x.at_,iI x.sz] 110):=(by rw[<- lr];exact han V4 (.cells #[iU x.hash,iI x.rg,iI x.at_,iI x.sz] 110));have kZ:Fq wz V6:=(by rw[<- lr];exact pr.alloc _);have ET:Fq V4 V6:=(by rw[<- lr];exact fR.alloc _);rw[lr];refine hK _ _ kZ ?_;clear hK K;refine rP fun K hK=>?_;refine yZ rfl (.tmp 46) (.tmp 48) 218 rfl wz.heap.size 110 i0 _ 4 32 underlying218 A3 J1 M1 O1 rfl dC (sL a4 k c4) k _ rfl (oN af ET) ⟨V4,0,none⟩ 1 1 (Q1 x) rfl (World.news_of_block yi) rfl (by simp[Value.oneCell']) (by simp only[maxLen];omega) oM kZ.size ?_;intro v7 V7 kh vp _;obtain⟨a7,c7,rfl,-,-,-,-⟩:=A2 kh;have nL:Fq wz V7:=kZ.trans (Bz (oN af ET) vp) fun b hb h=>oM;refine hK _ _ nL ?_;clear hK K;refine oR ?_
       refine o5 ?_;refine NoPanic.normal ?_;try simp only[Act.put,sI,sZ,sS]
       have xC:=nL.size;have hR:=hi2 kh (FZ.trans nL nI);clear sJ Ap po lr yi kZ ET af lE pr kh vp nL
      rotate_left;focus
       refine rQ fun K hK=>?_;obtain⟨V6,lr⟩:=eX (V0.alloc (.cells #[iU x.hash,iI x.rg,iI x.at_,iI x.sz] 110))
       have yi:V6.heap[V0.heap.size]?=some (.cells #[iU x.hash,iI x.rg,iI x.at_,iI x.sz] 110):=(by rw[<- lr];exact han V0 (.cells #[iU x.hash,iI x.rg,iI x.at_,iI x.sz] 110));have kZ:Fq wz V6:=(by rw[<- lr];exact po.alloc _);have ET:Fq V0 V6:=(by rw[<- lr];exact fR.alloc _);rw[lr];refine hK _ _ kZ ?_;clear hK K;refine rP fun K hK=>?_;refine Of rfl (.tmp 42) (.tmp 45) 218 rfl wz.heap.size 110 i0 _ 4 32 underlying218 A3 J1 M1 O1 rfl dC (sL wz 0 0) 0 [] rfl (Yf (nR _) (ET.heap Ap id)) _ k ((es.flatMap Q1).take (k*4)) rfl (HT _ kZ) (by rw[lT,jX,HN];omega) (fun u hu=>LT u (ov hu)) (by simp only[maxLen];omega) oM kZ.size ?_;intro v4 V4 af lE;simp only[C7,o8] at af;obtain⟨a4,c4,rfl,-,-,-,-⟩:=A2 af;have pr:Fq wz V4:=Qz kZ lE (nR _);refine hK _ _ pr ?_;clear hK K;have um:V4.heap[V0.heap.size]?=some (.cells #[iU x.hash,iI x.rg,iI x.at_,iI x.sz] 110):=(Fr.of_grownBy lE).heap yi (fun e=>by have e':V0.heap.size=wz.heap.size:=e;have:=M0 Ap;omega);refine rP fun K hK=>?_;refine yZ rfl (.tmp 46) (.tmp 48) 218 rfl wz.heap.size 110 i0 _ 4 32 underlying218 A3 J1 M1 O1 rfl dC (sL a4 k c4) k _ rfl af ⟨V0,0,none⟩ 1 1 (Q1 x) rfl (World.news_of_block um) rfl (by simp[Value.oneCell']) (by simp only[maxLen];omega) oM pr.size ?_;intro v7 V7 kh vp _;obtain⟨a7,c7,rfl,-,-,-,-⟩:=A2 kh;have nL:Fq wz V7:=pr.trans (Bz af vp) fun b hb h=>oM;refine hK _ _ nL ?_;clear hK K;refine oR ?_
       refine o5 ?_;refine NoPanic.normal ?_;try simp only[Act.put,sI,sZ,sS]
       have xC:=nL.size;have hR:=hi2 kh (FZ.trans nL nI);clear sJ Ap po lr yi um kZ ET af lE pr kh vp nL
     rotate_left 2;focus
      refine rQ fun K hK=>?_;obtain⟨V6,lr⟩:=eX ((wz.alloc (.cells #[iU x.hash,iI x.rg,iI x.at_,iI x.sz] 110)).drew)
      have yi:V6.heap[wz.heap.size]?=some (.cells #[iU x.hash,iI x.rg,iI x.at_,iI x.sz] 110):=(by rw[<- lr];exact han wz (.cells #[iU x.hash,iI x.rg,iI x.at_,iI x.sz] 110));have kZ:Fq wz V6:=(by rw[<- lr];exact (fR.alloc _).drew);rw[lr];refine hK _ _ kZ ?_;clear hK K;refine rQ fun K hK=>?_;obtain⟨V0,sJ⟩:=eX (V6.alloc (.cells #[] 110))
      have Ap:V0.heap[V6.heap.size]?=some (.cells #[] 110):=(by rw[<- sJ];exact han V6 (.cells #[] 110));have po:Fq wz V0:=(by rw[<- sJ];exact kZ.alloc _);have gV0:Fq V6 V0:=(by rw[<- sJ];exact fR.alloc _);rw[sJ];refine hK _ _ po ?_;clear hK K;refine rP fun K hK=>?_;refine Of rfl (.tmp 42) (.tmp 45) 218 rfl wz.heap.size 110 i0 _ 4 32 underlying218 A3 J1 M1 O1 rfl dC (sL V6 0 0) 0 [] rfl (Yf kZ.size Ap) _ k ((es.flatMap Q1).take (k*4)) rfl (HT _ po) (by rw[lT,jX,HN];omega) (fun u hu=>LT u (ov hu)) (by simp only[maxLen];omega) oM po.size ?_;intro v4 V4 af lE;simp only[C7,o8] at af;obtain⟨a4,c4,rfl,-,-,-,-⟩:=A2 af;have pr:Fq wz V4:=Qz po lE kZ.size;refine hK _ _ pr ?_;clear hK K;have um:V4.heap[wz.heap.size]?=some (.cells #[iU x.hash,iI x.rg,iI x.at_,iI x.sz] 110):=(Fr.of_grownBy lE).heap (gV0.heap yi id) (fun e=>by have e':wz.heap.size=V6.heap.size:=e;have:=M0 yi;omega);refine rP fun K hK=>?_;refine yZ rfl (.tmp 46) (.tmp 48) 218 rfl wz.heap.size 110 i0 _ 4 32 underlying218 A3 J1 M1 O1 rfl dC (sL a4 k c4) k _ rfl af ⟨wz,0,none⟩ 1 1 (Q1 x) rfl (World.news_of_block um) rfl (by simp[Value.oneCell']) (by simp only[maxLen];omega) oM pr.size ?_;intro v7 V7 kh vp _;obtain⟨a7,c7,rfl,-,-,-,-⟩:=A2 kh;have nL:Fq wz V7:=pr.trans (Bz af vp) fun b hb h=>oM;refine hK _ _ nL ?_;clear hK K;refine oR ?_
      refine o5 ?_;refine NoPanic.normal ?_;try simp only[Act.put,sI,sZ,sS]
      have xC:=nL.size;have hR:=hi2 kh (FZ.trans nL nI);clear sJ Ap po lr yi um kZ gV0 af lE pr kh vp nL
     all_goals
      go_wp2_with (at_builtin;refine mq rfl (.tmp 50) (.tmp 53) 218 rfl wz.heap.size 110 i0 _ 4 32 underlying218 A3 J1 M1 O1 rfl dC _ (k+1) _ rfl hR.o.1 (sL a2 (n-k) (c3-k)) (n-k) _ rfl (Y0 _ hR.o.2) (by rw[ed,jX,HN];omega) (fun u hu=>LT u (xZ hu)) (by simp only[maxLen];omega) oM xC ?_)
      intro v8 V8 hU nX _;rw[show k+1+(n-k)=n+1 by omega] at hU;obtain⟨a8,c8,rfl,-,-,-,-⟩:=A2 hU;have jD:=nT Sn.o FZ.size;have H8:=hi2 hU (H4.2.trans (hR.o.2.trans (Bz hR.o.1 nX) (fun b hb h=>by have:=FZ.size;omega) (S:=fun _=>False)) nI);have So:=hid jD;clear hU nX xC jD;obtain⟨⟨x0,x1,x2,xz,xl⟩,-,⟨y0,y1,y2,yz,yl⟩⟩:=HC.o _ H8.2;go_wp2_with fail
      refine bodyPost_ret (v:=gH d p (sL a8 (n+1) c8)) sR rfl ?_;rw[HP];have hIL:(fi es k x).length=n+1:=(by rw[OQ (by rw[HN];omega),HN.o]);refine ym0 HZ.o (HF.trans H8.2 nI) (H8.2.heap HB.1 id) (H8.2.heap HB.2.2 id) ?_ hIL rfl;unfold t8;rw[hIL,TE];have:=H8.1;rw[XO,PX] at this;exact ao this (by have:=HS.o;have:=So.o;omega)
